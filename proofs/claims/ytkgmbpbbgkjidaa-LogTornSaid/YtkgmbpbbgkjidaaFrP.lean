/- Frames: Put, and the document's Put. -/
import Derived.Test.YtkgmbpbbgkjidaaFr
namespace Go.Proofs.Ytkgmbpbbgkjidaa
open Go.RowKit Go.Proofs.Ytkgmbpbbgkjidaa.Pl Go.Proofs.Ytkgmbpbbgkjidaa.Pc

theorem Put_one (w : World) (A A' : Option Addr) (n c c' : Nat) (bs : List UInt8) (v : Nat) (hn : n = bs.length) (hb : Sl w w.heap.size A (bv bs)) (hl : Sl w w.heap.size A' (uv [v])) (hu : U64 v)
    (hbound : bs.length + 10 ≤ 140737488355328) : Calls Try.prog 35 #[.slice A n c, .slice A' 1 c'] w (Fresh w (bs ++ enc v)) := by
  subst hn
  have := Put_any w A A' c c' bs [v] hb hl (fun x hx => by simp at hx; subst hx; exact hu) (by simp; omega)
  simpa [encs] using this
theorem RefPut_one (w : World) (A A' : Option Addr) (n c c' : Nat) (bs : List UInt8) (v : Nat) (hn : n = bs.length) (hb : Sl w w.heap.size A (bv bs)) (hl : Sl w w.heap.size A' (uv [v])) (hu : U64 v)
    (hbound : bs.length + 10 ≤ 140737488355328) : Calls Try.prog 20 #[.slice A n c, .slice A' 1 c'] w (Fresh w (bs ++ enc v)) := by
  subst hn
  have := RefPut_any w A A' c c' bs [v] hb hl (fun x hx => by simp at hx; subst hx; exact hu) (by simp; omega)
  simpa [encs] using this
theorem right_num {x : Fr} (h : x.right = true) : (x.k = 1 ∨ x.k = 2) ∧ (0 ≤ x.f ∧ x.f < 64) ∧ (0 ≤ x.t ∧ x.t < 64) := by
  simpa [Fr.right, kindB, oneB, and_assoc] using h
set_option maxRecDepth 100000 in
set_option maxHeartbeats 1600000 in
theorem FPut_no (w : World) (x : Fr) (A : Option Addr) (c : Nat) (limit : Int) (hr : x.right = false) : Calls Try.prog 27 #[x.v A c, .int .i64 limit] w (PutPost w ([], 21)) := by
  obtain ⟨k, g, f, t, p⟩ := x
  unfold Fr.v
  have hr' : kindB k = false ∨ (kindB k = true ∧ oneB f = false) ∨ (kindB k = true ∧ oneB f = true ∧ oneB t = false) := by
    unfold Fr.right at hr
    simp only at hr
    cases h1 : kindB k <;> cases h2 : oneB f <;> cases h3 : oneB t <;> simp_all
  clear hr
  simp only
  have hb := balloc (Below.refl w.heap.size w) (.cells #[.int .i64 k, .int .u32 (g : Int), .int .i64 f, .int .i64 t, .slice A p.length c] 47)
  have hA := At.new w 47 #[.int .i64 k, .int .u32 (g : Int), .int .i64 f, .int .i64 t, .slice A p.length c]
  have c0 := hA.c 0 rfl
  have c2 := hA.c 2 rfl
  have c3 := hA.c 3 rfl
  have HK := Lib.hid (And.intro (fun W => kind_any W k) (And.intro (fun W => oneF_any W f) (fun W => oneF_any W t)))
  have hfin : ∀ W, Below w.heap.size w W → PutPost w ([], 21) (.returned (.tuple #[.slice none 0 0, .int .i64 21])) W := fun W hW => ⟨none, 0, rfl, .inl rfl, by simp, by simp [maxLen], hW⟩
  have HF := Lib.hid hfin
  clear hfin hA
  rcases hr' with h1 | ⟨h1, h2⟩ | ⟨h1, h2, h3⟩
  · rw [h1] at HK
    clear h1
    go_enter Try.func27, Try.ntmps27
    go_wp2_with fail
    refine (HK.out.1 _).mono ?_
    rintro e w' ⟨rfl, rfl⟩
    go_wp2_with fail
    go_ret2
    exact HF.out _ hb
  · rw [h1, h2] at HK
    clear h1 h2
    go_enter Try.func27, Try.ntmps27
    go_wp2_with fail
    refine (HK.out.1 _).mono ?_
    rintro e w' ⟨rfl, rfl⟩
    go_wp2_with fail
    refine (HK.out.2.1 _).mono ?_
    rintro e w' ⟨rfl, rfl⟩
    go_wp2_with fail
    go_ret2
    exact HF.out _ hb
  · rw [h1, h2, h3] at HK
    clear h1 h2 h3
    go_enter Try.func27, Try.ntmps27
    go_wp2_with fail
    refine (HK.out.1 _).mono ?_
    rintro e w' ⟨rfl, rfl⟩
    go_wp2_with fail
    refine (HK.out.2.1 _).mono ?_
    rintro e w' ⟨rfl, rfl⟩
    go_wp2_with fail
    refine (HK.out.2.2 _).mono ?_
    rintro e w' ⟨rfl, rfl⟩
    go_wp2_with fail
    go_ret2
    exact HF.out _ hb
set_option maxRecDepth 100000 in
set_option maxHeartbeats 3200000 in
theorem FPut_yes (w : World) (x : Fr) (A : Option Addr) (c : Nat) (limit : Int) (hr : x.right = true) (hb : Sl w w.heap.size A (bv x.p)) (hc : x.p.length ≤ c) (_hm : c ≤ maxLen) (hl : x.p.length ≤ 70368744177664) (hg : x.g < 4294967296) :
    Calls Try.prog 27 #[x.v A c, .int .i64 limit] w (PutPost w (if x.len ≤ heldN limit then (x.bytes, 0) else ([], 23))) := by
  obtain ⟨r1, r2, r3⟩ := right_num hr
  obtain ⟨k, g, f, t, p⟩ := x
  simp only at r1 r2 r3
  obtain ⟨kn, rfl⟩ : ∃ kn : Nat, k = (kn : Int) := ⟨k.toNat, by omega⟩
  obtain ⟨fn, rfl⟩ : ∃ fn : Nat, f = (fn : Int) := ⟨f.toNat, by omega⟩
  obtain ⟨tn, rfl⟩ : ∃ tn : Nat, t = (tn : Int) := ⟨t.toNat, by omega⟩
  obtain ⟨n, hn⟩ : ∃ n, p.length = n := ⟨_, rfl⟩
  obtain ⟨e, he⟩ : ∃ e, enc n = e := ⟨_, rfl⟩
  obtain ⟨le, hle⟩ : ∃ le, e.length = le := ⟨_, rfl⟩
  obtain ⟨ke1, ke2⟩ := enc_len n
  have hsz := fun W => Size_any W n (U64.mk (by simp only at hl; omega))
  rw [he, hle] at hsz ke1 ke2
  have hlen : (⟨(kn : Int), g, (fn : Int), (tn : Int), p⟩ : Fr).len = 9 + le + n + 4 := by simp only [Fr.len, hn, he, hle]
  obtain ⟨hh, hhe⟩ : ∃ hh, heldN limit = hh := ⟨_, rfl⟩
  have hhl : hh ≤ 65536 := by rw [← hhe]; unfold heldN; (repeat' split) <;> omega
  have hhe' := fun W => held_any W limit
  rw [hhe] at hhe'
  have hkk := fun W => kind_any W (kn : Int)
  have hkf := fun W => oneF_any W (fn : Int)
  have hkt := fun W => oneF_any W (tn : Int)
  have e1 : kindB (kn : Int) = true := by simpa [kindB] using r1
  have e2 : oneB (fn : Int) = true := by simpa [oneB] using r2
  have e3 : oneB (tn : Int) = true := by simpa [oneB] using r3
  rw [e1] at hkk
  rw [e2] at hkf
  rw [e3] at hkt
  rw [hlen, hhe]
  have HB := Lib.hid (show (⟨(kn : Int), g, (fn : Int), (tn : Int), p⟩ : Fr).bytes = sealS ([78, 82, UInt8.ofNat kn] ++ fixF g 4 ++ [UInt8.ofNat fn, UInt8.ofNat tn] ++ e ++ p) by rw [← he, ← hn]; rfl)
  have HK := Lib.hid (And.intro hkk (And.intro hkf (And.intro hkt (And.intro hsz hhe'))))
  clear hkk hkf hkt hsz hhe' e1 e2 e3 hr hlen hhe
  have ww0 : IntKind.u64.wrap (n : Int) = (n : Int) := by simp only at hl; rw [IntKind.wrap_u64]; omega
  have ww1 : IntKind.i64.wrap (9 + (le : Int)) = 9 + (le : Int) := by rw [IntKind.wrap_i64]; omega
  have ww2 : IntKind.i64.wrap (9 + (le : Int) + (n : Int)) = 9 + (le : Int) + (n : Int) := by simp only at hl; rw [IntKind.wrap_i64]; omega
  have ww3 : IntKind.i64.wrap (9 + (le : Int) + (n : Int) + 4) = 9 + (le : Int) + (n : Int) + 4 := by simp only at hl; rw [IntKind.wrap_i64]; omega
  simp only at hb hc hl hg
  have g1 : kn < 256 := by omega
  have g2 : fn < 256 := by omega
  have g3 : tn < 256 := by omega
  unfold Fr.v
  simp only
  rw [hn]
  have hbw := balloc (Below.refl w.heap.size w) (.cells #[.int .i64 (kn : Int), .int .u32 (g : Int), .int .i64 (fn : Int), .int .i64 (tn : Int), .slice A n c] 47)
  have hA := At.new w 47 #[.int .i64 (kn : Int), .int .u32 (g : Int), .int .i64 (fn : Int), .int .i64 (tn : Int), .slice A n c]
  have hsl := hb.below hbw
  obtain ⟨F, hF⟩ : ∃ F, fixF g 4 = F := ⟨_, rfl⟩
  have hFl : F.length = 4 := by rw [← hF]; exact fixF_len _ _
  rw [hF] at HB
  have hfix := Lib.hid (fun W => Fixed_lit W g 4 F (by omega) hF)
  by_cases hfit : 9 + le + n + 4 ≤ hh
  · rw [if_pos hfit]
    have q1 : decide ((hh : Int) < 9 + (le : Int) + (n : Int) + 4) = false := by rw [decide_eq_false_iff_not]; omega
    have HN := Lib.hid (And.intro hn (And.intro hle (And.intro hl (And.intro hF he))))
    clear hn hle hl hF he
    have c0 := hA.c 0 rfl
    have c2 := hA.c 2 rfl
    have c3 := hA.c 3 rfl
    go_enter Try.func27, Try.ntmps27
    go_wp2_with fail
    generalize w.alloc (.cells #[.int .i64 (kn : Int), .int .u32 (g : Int), .int .i64 (fn : Int), .int .i64 (tn : Int), .slice A n c] 47) = w1 at *
    refine (HK.out.1 _).mono ?_
    rintro e w' ⟨rfl, rfl⟩
    go_wp2_with fail
    refine (HK.out.2.1 _).mono ?_
    rintro e w' ⟨rfl, rfl⟩
    go_wp2_with fail
    refine (HK.out.2.2.1 _).mono ?_
    rintro e w' ⟨rfl, rfl⟩
    go_wp2_with fail
    clear c0 c2 c3
    have d4 := hA.e 4 rfl
    refine bstart (by kernel_rfl) ?_
    refine btake 0 (oi := _) (v := ?_) (by simp only [List.getElem?_toArray, List.getElem?_cons_zero]; rfl) (by kernel_rfl) (by exact fun _ _ _ h => h) (by first | assumption | exact KB.refl _) (.inl ⟨by rfl, fun W hW => ?_⟩) ?_; rotate_left
    · (go_simp; first | done | with_reducible rfl)
    try simp only [Act.put, List.setIfInBounds_toArray, List.set_cons_zero, List.set_cons_succ]
    refine btake 1 (oi := _) (v := ?_) (by simp only [List.getElem?_toArray, List.getElem?_cons_succ, List.getElem?_cons_zero]; rfl) (by kernel_rfl) (by exact fun _ _ _ h => h) (by first | assumption | exact KB.refl _) (.inl ⟨by rfl, fun W hW => ?_⟩) ?_; rotate_left
    · (go_simp; first | done | with_reducible rfl)
    try simp only [Act.put, List.setIfInBounds_toArray, List.set_cons_zero, List.set_cons_succ]
    refine btake 2 (oi := _) (v := ?_) (by simp only [List.getElem?_toArray, List.getElem?_cons_succ, List.getElem?_cons_zero]; rfl) (by kernel_rfl) (by exact fun _ _ _ h => h) (by first | assumption | exact KB.refl _) (.inl ⟨by rfl, fun W hW => ?_⟩) ?_; rotate_left
    · (go_simp; first | done | with_reducible rfl)
    try simp only [Act.put, List.setIfInBounds_toArray, List.set_cons_zero, List.set_cons_succ]
    refine btake 3 (oi := _) (v := ?_) (by simp only [List.getElem?_toArray, List.getElem?_cons_succ, List.getElem?_cons_zero]; rfl) (by kernel_rfl) (by exact fun _ _ _ h => h) (by first | assumption | exact KB.refl _) (.inl ⟨by rfl, fun W hW => ?_⟩) ?_; rotate_left
    · (go_simp; first | done | with_reducible rfl)
    try simp only [Act.put, List.setIfInBounds_toArray, List.set_cons_zero, List.set_cons_succ]
    refine btake 6 (oi := _) (v := ?_) (by simp only [List.getElem?_toArray, List.getElem?_cons_succ, List.getElem?_cons_zero]; rfl) (by kernel_rfl) (by exact fun _ _ _ h => h) (by first | assumption | exact KB.refl _) (.inl ⟨by rfl, fun W hW => ?_⟩) ?_; rotate_left
    · (go_simp; first | done | with_reducible rfl)
    try simp only [Act.put, List.setIfInBounds_toArray, List.set_cons_zero, List.set_cons_succ]
    refine btake 7 (oi := _) (v := ?_) (by simp only [List.getElem?_toArray, List.getElem?_cons_succ, List.getElem?_cons_zero]; rfl) (by kernel_rfl) (by exact fun _ _ _ h => h) (by first | assumption | exact KB.refl _) (.inl ⟨by rfl, fun W hW => ?_⟩) ?_; rotate_left
    · (go_simp; first | done | with_reducible rfl)
    try simp only [Act.put, List.setIfInBounds_toArray, List.set_cons_zero, List.set_cons_succ]
    refine btake 8 (oi := _) (v := ?_) (by simp only [List.getElem?_toArray, List.getElem?_cons_succ, List.getElem?_cons_zero]; rfl) (by kernel_rfl) (by exact fun _ _ _ h => h) (by first | assumption | exact KB.refl _) (.inl ⟨by rfl, fun W hW => ?_⟩) ?_; rotate_left
    · (go_simp; first | done | with_reducible rfl)
    try simp only [Act.put, List.setIfInBounds_toArray, List.set_cons_zero, List.set_cons_succ]
    refine btake 11 (oi := _) (v := ?_) (by simp only [List.getElem?_toArray, List.getElem?_cons_succ, List.getElem?_cons_zero]; rfl) (by kernel_rfl) (by exact fun _ _ _ h => h) (by first | assumption | exact KB.refl _) (.inl ⟨by rfl, fun W hW => ?_⟩) ?_; rotate_left
    · (go_simp; first | done | with_reducible rfl)
    try simp only [Act.put, List.setIfInBounds_toArray, List.set_cons_zero, List.set_cons_succ]
    -- 4: newsreel/num.Size
    refine bop 4 (o := _) (by simp only [List.getElem?_toArray, List.getElem?_cons_succ, List.getElem?_cons_zero]; rfl) (by kernel_rfl) (by first | assumption | exact KB.refl _) (by rfl) (fun K hK => ?_)
    go_simp
    refine (HK.out.2.2.2.1 _).mono ?_
    rintro e w2 ⟨rfl, hb2⟩
    have hB2 : Below w1.heap.size w1 w2 := (Below.refl _ w1).drew.trans hb2
    have hkb := KB.of hb2
    have d4 := (hA.below hB2).e 4 rfl
    refine hK.out _ _ hkb ?_; clear hK K
    try simp only [Act.put, List.setIfInBounds_toArray, List.set_cons_zero, List.set_cons_succ]
    refine btake 5 (oi := _) (v := ?_) (by simp only [List.getElem?_toArray, List.getElem?_cons_succ, List.getElem?_cons_zero]; rfl) (by kernel_rfl) (by exact fun _ _ _ h => h) (by first | assumption | exact KB.refl _) (.inl ⟨by rfl, fun W hW => ?_⟩) ?_; rotate_left
    · (go_simp; first | done | with_reducible rfl)
    try simp only [Act.put, List.setIfInBounds_toArray, List.set_cons_zero, List.set_cons_succ]
    refine btake 9 (oi := _) (v := ?_) (by simp only [List.getElem?_toArray, List.getElem?_cons_succ, List.getElem?_cons_zero]; rfl) (by kernel_rfl) (by exact fun _ _ _ h => h) (by first | assumption | exact KB.refl _) (.inl ⟨by rfl, fun W hW => ?_⟩) ?_; rotate_left
    · (go_simp; first | done | with_reducible rfl)
    try simp only [Act.put, List.setIfInBounds_toArray, List.set_cons_zero, List.set_cons_succ]
    refine btake 10 (oi := _) (v := ?_) (by simp only [List.getElem?_toArray, List.getElem?_cons_succ, List.getElem?_cons_zero]; rfl) (by kernel_rfl) (by exact fun _ _ _ h => h) (by first | assumption | exact KB.refl _) (.inl ⟨by rfl, fun W hW => ?_⟩) ?_; rotate_left
    · (go_simp; first | done | with_reducible rfl)
    try simp only [Act.put, List.setIfInBounds_toArray, List.set_cons_zero, List.set_cons_succ]
    -- 12: newsreel/frame.held
    refine bop 12 (o := _) (by simp only [List.getElem?_toArray, List.getElem?_cons_succ, List.getElem?_cons_zero]; rfl) (by kernel_rfl) (by first | assumption | exact KB.refl _) (by rfl) (fun K hK => ?_)
    go_simp
    refine (HK.out.2.2.2.2 _).mono ?_
    rintro e w3 ⟨rfl, rfl⟩
    have hkb := KB.refl w2
    refine hK.out _ _ hkb ?_; clear hK K
    try simp only [Act.put, List.setIfInBounds_toArray, List.set_cons_zero, List.set_cons_succ]
    refine btake 13 (oi := _) (v := ?_) (by simp only [List.getElem?_toArray, List.getElem?_cons_succ, List.getElem?_cons_zero]; rfl) (by kernel_rfl) (by exact fun _ _ _ h => h) (by first | assumption | exact KB.refl _) (.inl ⟨by rfl, fun W hW => ?_⟩) ?_; rotate_left
    · (go_simp; first | done | with_reducible rfl)
    try simp only [Act.put, List.setIfInBounds_toArray, List.set_cons_zero, List.set_cons_succ]
    refine bdone (by kernel_rfl) ?_
    have hA2 := hA.below hB2
    have b2 := hbw.trans (hB2.mono hbw.size)
    have kc := fun (w : World) (C : Array Value) (n c : Nat) => Lib.run_convert_bytes_const (P := Try.prog) w 25 5 C n c Try.underlying25 Try.underlying5
    have hA3 := hA2.alloc (.cells #[.int .u8 78, .int .u8 82] 5 (2, 3))
    have b3 := balloc (Below.refl w2.heap.size w2) (.cells #[.int .u8 78, .int .u8 82] 5 (2, 3))
    have d0 := hA3.c 0 rfl
    have hC : Sl (w2.alloc (.cells #[.int .u8 78, .int .u8 82] 5 (2, 3))) (w2.heap.size + 1) (some ⟨w2.heap.size, 0, none⟩) (bv [78, 82]) := Sl.new w2 5 #[.int .u8 78, .int .u8 82] (2, 3)
    have hK1 : Sl ((w2.alloc (.cells #[.int .u8 78, .int .u8 82] 5 (2, 3))).alloc (.cells #[.int .u8 (kn : Int)] 5)) (w2.heap.size + 2) (some ⟨w2.heap.size + 1, 0, none⟩) (bv [UInt8.ofNat kn]) := by
      have := Sl.new (w2.alloc (.cells #[.int .u8 78, .int .u8 82] 5 (2, 3))) 5 #[.int .u8 (kn : Int)] (0, 0)
      rw [show (#[Value.int .u8 (kn : Int)] : Array Value).toList = bv [UInt8.ofNat kn] from one_bv kn g1] at this
      simpa using this
    replace hC := hC.alloc (.cells #[.int .u8 (kn : Int)] 5)
    replace hA3 := hA3.alloc (.cells #[.int .u8 (kn : Int)] 5)
    replace b3 := balloc b3 (.cells #[.int .u8 (kn : Int)] 5)
    clear d4 hkb hb2 ww0 ww1 ww2 ww3 q1
    have h02 : w.heap.size < w2.heap.size := hA2.lt
    go_wp2_with (at_builtin; refine appF (n := 2) (m := 1) (cap := 2) rfl rfl hC rfl hK1 rfl rfl rfl (by omega) (fun h => by cases h) (by omega) (by simp) ?_; intro s4 w4 hown4 hg4; have hA4 := hA3.grown hg4 (fun h => by cases h); have d1 := hA4.c 1 rfl; have b4 := b3.trans (below_of_grown hg4 (fun _ h => by cases h) b3.size); replace hown4 := hown4.lower (base' := w2.heap.size) (by simp; omega); obtain ⟨A4, c4, rfl, _⟩ := hown4.form; clear d0 hC hK1 hA3 b3 hg4)
    refine (hfix.out _).mono ?_
    rintro e5 w5 ⟨A5, c5, rfl, hown5, hb5⟩
    replace hown4 := hown4.below hb5
    replace b4 := b4.trans (hb5.mono b4.size)
    have hs5 := (Fresh.sl hown5).1
    clear d1 hA4
    go_wp2_with (at_builtin; refine app rfl rfl hown4 hs5 hFl.symm rfl rfl (by simp [hFl]) b4.size ?_; intro s6 w6 hown6 hg6 hat6)
    have b6 := own_below b4 b4.size hown4 hg6
    obtain ⟨L6, hL6⟩ : ∃ L, [78, 82] ++ [UInt8.ofNat kn] ++ F = L := ⟨_, rfl⟩
    rw [hL6] at hown6
    have hl6 : L6.length = 7 := by rw [← hL6]; simp [hFl]
    have HL6 := Lib.hid (And.intro hL6 hl6)
    clear hL6 hl6
    obtain ⟨A6, c6, rfl, _⟩ := hown6.form
    have hsl6 := hb.below (b2.trans (b6.mono b2.size))
    clear hown4 hown5 hb5 hs5 b4 hg6 hat6
    have f2 := hA2.e 2 rfl
    have f3 := hA2.e 3 rfl
    have f4 := hA2.e 4 rfl
    have ww4 : IntKind.u8.wrap (fn : Int) = (fn : Int) := by rw [IntKind.wrap_u8]; omega
    have ww5 : IntKind.u8.wrap (tn : Int) = (tn : Int) := by rw [IntKind.wrap_u8]; omega
    have ww6 : IntKind.u64.wrap (n : Int) = (n : Int) := by have := HN.out.2.2.1; have := HN.out.1; rw [IntKind.wrap_u64]; omega
    have hB := b6.drew
    have hS0 : KB w2.heap w6.drew := KB.of hB
    have hown : OwnB w6.drew _ _ _ := hown6
    refine bstartH (w2.heap) (by kernel_rfl) ?_
    refine btake 0 (oi := _) (v := ?_) (by simp only [List.getElem?_toArray, List.getElem?_cons_zero]; rfl) (by kernel_rfl) (by exact fun _ _ _ h => h) (by first | assumption | exact KB.refl _ | exact kb0 _) (.inl ⟨by rfl, fun W hW => ?_⟩) ?_; rotate_left
    · (go_simp; first | done | with_reducible rfl)
    try simp only [Act.put, List.setIfInBounds_toArray, List.set_cons_zero, List.set_cons_succ]
    refine btake 1 (oi := _) (v := ?_) (by simp only [List.getElem?_toArray, List.getElem?_cons_succ, List.getElem?_cons_zero]; rfl) (by kernel_rfl) (by exact fun _ _ _ h => h) (by first | assumption | exact KB.refl _ | exact kb0 _) (.inl ⟨by rfl, fun W hW => ?_⟩) ?_; rotate_left
    · (go_simp; first | done | with_reducible rfl)
    try simp only [Act.put, List.setIfInBounds_toArray, List.set_cons_zero, List.set_cons_succ]
    refine btake 2 (oi := _) (v := ?_) (by simp only [List.getElem?_toArray, List.getElem?_cons_succ, List.getElem?_cons_zero]; rfl) (by kernel_rfl) (by exact fun _ _ _ h => h) (by first | assumption | exact KB.refl _ | exact kb0 _) (.inl ⟨by rfl, fun W hW => ?_⟩) ?_; rotate_left
    · (go_simp; first | done | with_reducible rfl)
    try simp only [Act.put, List.setIfInBounds_toArray, List.set_cons_zero, List.set_cons_succ]
    refine btake 3 (oi := _) (v := ?_) (by simp only [List.getElem?_toArray, List.getElem?_cons_succ, List.getElem?_cons_zero]; rfl) (by kernel_rfl) (by exact fun _ _ _ h => h) (by first | assumption | exact KB.refl _ | exact kb0 _) (.inl ⟨by rfl, fun W hW => ?_⟩) ?_; rotate_left
    · (go_simp; first | done | with_reducible rfl)
    try simp only [Act.put, List.setIfInBounds_toArray, List.set_cons_zero, List.set_cons_succ]
    refine btake 4 (oi := _) (v := ?_) (by simp only [List.getElem?_toArray, List.getElem?_cons_succ, List.getElem?_cons_zero]; rfl) (by kernel_rfl) (by exact fun _ _ _ h => h) (by first | assumption | exact KB.refl _ | exact kb0 _) (.inl ⟨by rfl, fun W hW => ?_⟩) ?_; rotate_left
    · (go_simp; first | done | with_reducible rfl)
    try simp only [Act.put, List.setIfInBounds_toArray, List.set_cons_zero, List.set_cons_succ]
    refine btake 5 (oi := _) (v := ?_) (by simp only [List.getElem?_toArray, List.getElem?_cons_succ, List.getElem?_cons_zero]; rfl) (by kernel_rfl) (by exact fun _ _ _ h => h) (by first | assumption | exact KB.refl _ | exact kb0 _) (.inl ⟨by rfl, fun W hW => ?_⟩) ?_; rotate_left
    · (go_simp; first | done | with_reducible rfl)
    try simp only [Act.put, List.setIfInBounds_toArray, List.set_cons_zero, List.set_cons_succ]
    refine btake 6 (oi := _) (v := ?_) (by simp only [List.getElem?_toArray, List.getElem?_cons_succ, List.getElem?_cons_zero]; rfl) (by kernel_rfl) (by exact fun _ _ _ h => h) (by first | assumption | exact KB.refl _ | exact kb0 _) (.inl ⟨by rfl, fun W hW => ?_⟩) ?_; rotate_left
    · (go_simp; first | done | with_reducible rfl)
    try simp only [Act.put, List.setIfInBounds_toArray, List.set_cons_zero, List.set_cons_succ]
    refine btake 9 (oi := _) (v := ?_) (by simp only [List.getElem?_toArray, List.getElem?_cons_succ, List.getElem?_cons_zero]; rfl) (by kernel_rfl) (by exact fun _ _ _ h => h) (by first | assumption | exact KB.refl _ | exact kb0 _) (.inl ⟨by rfl, fun W hW => ?_⟩) ?_; rotate_left
    · (go_simp; first | done | with_reducible rfl)
    try simp only [Act.put, List.setIfInBounds_toArray, List.set_cons_zero, List.set_cons_succ]
    refine btake 10 (oi := _) (v := ?_) (by simp only [List.getElem?_toArray, List.getElem?_cons_succ, List.getElem?_cons_zero]; rfl) (by kernel_rfl) (by exact fun _ _ _ h => h) (by first | assumption | exact KB.refl _ | exact kb0 _) (.inl ⟨by rfl, fun W hW => ?_⟩) ?_; rotate_left
    · (go_simp; first | done | with_reducible rfl)
    try simp only [Act.put, List.setIfInBounds_toArray, List.set_cons_zero, List.set_cons_succ]
    refine btake 11 (oi := _) (v := ?_) (by simp only [List.getElem?_toArray, List.getElem?_cons_succ, List.getElem?_cons_zero]; rfl) (by kernel_rfl) (by exact fun _ _ _ h => h) (by first | assumption | exact KB.refl _ | exact kb0 _) (.inl ⟨by rfl, fun W hW => ?_⟩) ?_; rotate_left
    · (go_simp; first | done | with_reducible rfl)
    try simp only [Act.put, List.setIfInBounds_toArray, List.set_cons_zero, List.set_cons_succ]
    refine btake 12 (oi := _) (v := ?_) (by simp only [List.getElem?_toArray, List.getElem?_cons_succ, List.getElem?_cons_zero]; rfl) (by kernel_rfl) (by exact fun _ _ _ h => h) (by first | assumption | exact KB.refl _ | exact kb0 _) (.inl ⟨by rfl, fun W hW => ?_⟩) ?_; rotate_left
    · (go_simp; first | done | with_reducible rfl)
    try simp only [Act.put, List.setIfInBounds_toArray, List.set_cons_zero, List.set_cons_succ]
    refine bopH2 7 13 (oi := _) (oj := _) (by simp only [List.getElem?_toArray, List.getElem?_cons_succ, List.getElem?_cons_zero]; rfl) (by simp only [List.getElem?_toArray, List.getElem?_cons_succ, List.getElem?_cons_zero]; rfl) (by kernel_rfl) (by first | assumption | exact KB.refl _ | exact kb0 _) (by rfl) (by rfl) (fun K hK => ?_) (fun K hK => ?_)
    · -- 7: Op.buildSlice 25 2 #[(0, Operand.tmp 53), (1, Operand.tmp 56)]
      go_simp
      have h7 := At.newB hB 5 #[.int .u8 (fn : Int), .int .u8 (tn : Int)]
      try simp only at h7
      try have h13 := h13.alloc (.cells #[.int .u8 (fn : Int), .int .u8 (tn : Int)] 5)
      have hown := hown.alloc (.cells #[.int .u8 (fn : Int), .int .u8 (tn : Int)] 5)
      have hB := hB.alloc hB.size (.cells #[.int .u8 (fn : Int), .int .u8 (tn : Int)] 5)
      have hkb := KB.of hB
      refine hK.out _ _ hkb ?_; clear hK K
      try simp only [Act.put, List.setIfInBounds_toArray, List.set_cons_zero, List.set_cons_succ]
      refine bopH2 8 13 (oi := _) (oj := _) (by simp only [List.getElem?_toArray, List.getElem?_cons_succ, List.getElem?_cons_zero]; rfl) (by simp only [List.getElem?_toArray, List.getElem?_cons_succ, List.getElem?_cons_zero]; rfl) (by kernel_rfl) (by first | assumption | exact KB.refl _ | exact kb0 _) (by rfl) (by rfl) (fun K hK => ?_) (fun K hK => ?_)
      · -- 8: Op.call { callee := Callee.builtin Builtin.append, args := #[Operand.tmp 50, Operand.tmp 57], argTypes := #[25, 25] }
        refine wp_app rfl hown (h7.slb (two_bv fn tn g2 g3)) rfl rfl rfl (by have := HL6.out.2; simp; omega) hB.size ?_
        intro s8 w8 hown8 hg8 hat8
        try have h13 := h13.grown hg8 hne
        have hB := own_below hB hB.size hown hg8
        obtain ⟨L8, hL8⟩ : ∃ L, L6 ++ [UInt8.ofNat fn, UInt8.ofNat tn] = L := ⟨_, rfl⟩
        rw [hL8] at hown8
        have hl8 : L8.length = 9 := by rw [← hL8]; simp [HL6.out.2]
        have HL8 := Lib.hid (And.intro hL8 hl8)
        clear hL8 hl8
        obtain ⟨A8, c8, rfl, hlc8, _⟩ := hown8.form
        clear hown
        have hown := hown8
        have hkb := KB.of hB
        refine hK.out _ _ hkb ?_; clear hK K
        try simp only [Act.put, List.setIfInBounds_toArray, List.set_cons_zero, List.set_cons_succ]
        -- 13: Op.buildSlice 66 1 #[(0, Operand.tmp 62)]
        refine bopH 13 (o := _) (by simp only [List.getElem?_toArray, List.getElem?_cons_succ, List.getElem?_cons_zero]; rfl) (by kernel_rfl) (by first | assumption | exact KB.refl _ | exact kb0 _) (by rfl) (fun K hK => ?_)
        go_simp
        have hne := own_ne hown
        try simp only [World.size_alloc] at hne
        have h13 := At.newB hB 33 #[.int .u64 (n : Int)]
        try simp only at h13
        try have h7 := h7.alloc (.cells #[.int .u64 (n : Int)] 33)
        have hown := hown.alloc (.cells #[.int .u64 (n : Int)] 33)
        have hB := hB.alloc hB.size (.cells #[.int .u64 (n : Int)] 33)
        have hkb := KB.of hB
        refine hK.out _ _ hkb ?_; clear hK K
        try simp only [Act.put, List.setIfInBounds_toArray, List.set_cons_zero, List.set_cons_succ]
        -- 14: Op.call { callee := Callee.value (Operand.func 35), args := #[Operand.tmp 58, Operand.tmp 63], argTypes := #[25, 66] }
        refine bopH 14 (o := _) (by simp only [List.getElem?_toArray, List.getElem?_cons_succ, List.getElem?_cons_zero]; rfl) (by kernel_rfl) (by first | assumption | exact KB.refl _ | exact kb0 _) (by rfl) (fun K hK => ?_)
        go_simp
        refine (Put_one _ A8 _ _ c8 _ _ n (by rfl) (OwnB.sl hown).1 h13.sl (U64.mk (by have := HN.out.2.2.1; have := HN.out.1; omega)) (by have := HL8.out.2; omega)).mono ?_
        rintro e14 w14 ⟨A14, c14, rfl, hown14, hb14⟩
        obtain ⟨L14, hL14⟩ : ∃ L, L8 ++ enc n = L := ⟨_, rfl⟩
        rw [hL14] at hown14 ⊢
        have HL14 := Lib.hid hL14
        clear hL14
        have hown14 := hown14.lower hB.size
        have hB := hB.trans (hb14.mono hB.size)
        have hkb := KB.of hB
        refine hK.out _ _ hkb ?_; clear hK K
        try simp only [Act.put, List.setIfInBounds_toArray, List.set_cons_zero, List.set_cons_succ]
        refine btake 15 (oi := _) (v := ?_) (by simp only [List.getElem?_toArray, List.getElem?_cons_succ, List.getElem?_cons_zero]; rfl) (by kernel_rfl) (by exact fun _ _ _ h => h) (by first | assumption | exact KB.refl _ | exact kb0 _) (.inl ⟨by rfl, fun W hW => ?_⟩) ?_; rotate_left
        · (go_simp; first | done | with_reducible rfl)
        try simp only [Act.put, List.setIfInBounds_toArray, List.set_cons_zero, List.set_cons_succ]
        refine bdone (by kernel_rfl) ?_
        have hp := hb.below (b2.trans (hB.mono b2.size))
        have f4 := (hA2.below hB).c 4 rfl
        have hl14 : L14.length + n ≤ 140737488350000 := by
          rw [← HL14.out, List.length_append, HN.out.2.2.2.2, HN.out.2.1, HL8.out.2]
          have := HN.out.2.2.1
          have := HN.out.1
          omega
        have hpn := HN.out.1
        go_wp2_with (at_builtin; refine app rfl rfl hown14 hp hpn.symm rfl rfl (by omega) hB.size ?_; intro s15 w15 hown15 hg15 hat15; have hB15 := own_below hB hB.size hown14 hg15; obtain ⟨L15, hL15⟩ : ∃ L, L14 ++ p = L := ⟨_, rfl⟩; rw [hL15] at hown15; obtain ⟨A15, c15, rfl, hlc15, _⟩ := hown15.form; have HL15 := Lib.hid hL15; clear hL15 f4)
        have hl15 : L15.length + 4 ≤ 140737488355328 := by rw [← HL15.out, List.length_append]; omega
        refine (Seal_any w15 A15 L15.length c15 L15 (OwnB.sl hown15).1 rfl hlc15 (OwnB.sl hown15).2.2 hl15).mono ?_
        rintro e16 w16 ⟨A16, c16, rfl, hown16, hb16⟩
        go_wp2_with fail
        go_ret2
        have hres : sealS L15 = (⟨(kn : Int), g, (fn : Int), (tn : Int), p⟩ : Fr).bytes := by
          rw [HB.out, ← HL15.out, ← HL14.out, ← HL8.out.1, ← HL6.out.1, HN.out.2.2.2.2]
          simp
        have hs16 := OwnB.sl hown16
        have hfin : PutPost w (sealS L15, 0) (.returned (.tuple #[.slice A16 (sealS L15).length c16, .int .i64 0])) w16 := ⟨A16, c16, rfl, hs16.1, hs16.2.1, hs16.2.2, b2.trans ((hB15.trans (hb16.mono hB15.size)).mono b2.size)⟩
        rw [← hres]
        exact hfin
      · -- 13: Op.buildSlice 66 1 #[(0, Operand.tmp 62)]
        go_simp
        have hne := own_ne hown
        try simp only [World.size_alloc] at hne
        have h13 := At.newB hB 33 #[.int .u64 (n : Int)]
        try simp only [World.size_alloc] at h13
        try have h7 := h7.alloc (.cells #[.int .u64 (n : Int)] 33)
        have hown := hown.alloc (.cells #[.int .u64 (n : Int)] 33)
        have hB := hB.alloc hB.size (.cells #[.int .u64 (n : Int)] 33)
        have hkb := KB.of hB
        refine hK.out _ _ hkb ?_; clear hK K
        try simp only [Act.put, List.setIfInBounds_toArray, List.set_cons_zero, List.set_cons_succ]
        -- 8: Op.call { callee := Callee.builtin Builtin.append, args := #[Operand.tmp 50, Operand.tmp 57], argTypes := #[25, 25] }
        refine bopH 8 (o := _) (by simp only [List.getElem?_toArray, List.getElem?_cons_succ, List.getElem?_cons_zero]; rfl) (by kernel_rfl) (by first | assumption | exact KB.refl _ | exact kb0 _) (by rfl) (fun K hK => ?_)
        refine wp_app rfl hown (h7.slb (two_bv fn tn g2 g3)) rfl rfl rfl (by have := HL6.out.2; simp; omega) hB.size ?_
        intro s8 w8 hown8 hg8 hat8
        try have h13 := h13.grown hg8 hne
        have hB := own_below hB hB.size hown hg8
        obtain ⟨L8, hL8⟩ : ∃ L, L6 ++ [UInt8.ofNat fn, UInt8.ofNat tn] = L := ⟨_, rfl⟩
        rw [hL8] at hown8
        have hl8 : L8.length = 9 := by rw [← hL8]; simp [HL6.out.2]
        have HL8 := Lib.hid (And.intro hL8 hl8)
        clear hL8 hl8
        obtain ⟨A8, c8, rfl, hlc8, _⟩ := hown8.form
        clear hown
        have hown := hown8
        have hkb := KB.of hB
        refine hK.out _ _ hkb ?_; clear hK K
        try simp only [Act.put, List.setIfInBounds_toArray, List.set_cons_zero, List.set_cons_succ]
        -- 14: Op.call { callee := Callee.value (Operand.func 35), args := #[Operand.tmp 58, Operand.tmp 63], argTypes := #[25, 66] }
        refine bopH 14 (o := _) (by simp only [List.getElem?_toArray, List.getElem?_cons_succ, List.getElem?_cons_zero]; rfl) (by kernel_rfl) (by first | assumption | exact KB.refl _ | exact kb0 _) (by rfl) (fun K hK => ?_)
        go_simp
        refine (Put_one _ A8 _ _ c8 _ _ n (by rfl) (OwnB.sl hown).1 h13.sl (U64.mk (by have := HN.out.2.2.1; have := HN.out.1; omega)) (by have := HL8.out.2; omega)).mono ?_
        rintro e14 w14 ⟨A14, c14, rfl, hown14, hb14⟩
        obtain ⟨L14, hL14⟩ : ∃ L, L8 ++ enc n = L := ⟨_, rfl⟩
        rw [hL14] at hown14 ⊢
        have HL14 := Lib.hid hL14
        clear hL14
        have hown14 := hown14.lower hB.size
        have hB := hB.trans (hb14.mono hB.size)
        have hkb := KB.of hB
        refine hK.out _ _ hkb ?_; clear hK K
        try simp only [Act.put, List.setIfInBounds_toArray, List.set_cons_zero, List.set_cons_succ]
        refine btake 15 (oi := _) (v := ?_) (by simp only [List.getElem?_toArray, List.getElem?_cons_succ, List.getElem?_cons_zero]; rfl) (by kernel_rfl) (by exact fun _ _ _ h => h) (by first | assumption | exact KB.refl _ | exact kb0 _) (.inl ⟨by rfl, fun W hW => ?_⟩) ?_; rotate_left
        · (go_simp; first | done | with_reducible rfl)
        try simp only [Act.put, List.setIfInBounds_toArray, List.set_cons_zero, List.set_cons_succ]
        refine bdone (by kernel_rfl) ?_
        have hp := hb.below (b2.trans (hB.mono b2.size))
        have f4 := (hA2.below hB).c 4 rfl
        have hl14 : L14.length + n ≤ 140737488350000 := by
          rw [← HL14.out, List.length_append, HN.out.2.2.2.2, HN.out.2.1, HL8.out.2]
          have := HN.out.2.2.1
          have := HN.out.1
          omega
        have hpn := HN.out.1
        go_wp2_with (at_builtin; refine app rfl rfl hown14 hp hpn.symm rfl rfl (by omega) hB.size ?_; intro s15 w15 hown15 hg15 hat15; have hB15 := own_below hB hB.size hown14 hg15; obtain ⟨L15, hL15⟩ : ∃ L, L14 ++ p = L := ⟨_, rfl⟩; rw [hL15] at hown15; obtain ⟨A15, c15, rfl, hlc15, _⟩ := hown15.form; have HL15 := Lib.hid hL15; clear hL15 f4)
        have hl15 : L15.length + 4 ≤ 140737488355328 := by rw [← HL15.out, List.length_append]; omega
        refine (Seal_any w15 A15 L15.length c15 L15 (OwnB.sl hown15).1 rfl hlc15 (OwnB.sl hown15).2.2 hl15).mono ?_
        rintro e16 w16 ⟨A16, c16, rfl, hown16, hb16⟩
        go_wp2_with fail
        go_ret2
        have hres : sealS L15 = (⟨(kn : Int), g, (fn : Int), (tn : Int), p⟩ : Fr).bytes := by
          rw [HB.out, ← HL15.out, ← HL14.out, ← HL8.out.1, ← HL6.out.1, HN.out.2.2.2.2]
          simp
        have hs16 := OwnB.sl hown16
        have hfin : PutPost w (sealS L15, 0) (.returned (.tuple #[.slice A16 (sealS L15).length c16, .int .i64 0])) w16 := ⟨A16, c16, rfl, hs16.1, hs16.2.1, hs16.2.2, b2.trans ((hB15.trans (hb16.mono hB15.size)).mono b2.size)⟩
        rw [← hres]
        exact hfin
    · -- 13: Op.buildSlice 66 1 #[(0, Operand.tmp 62)]
      go_simp
      have hne := own_ne hown
      try simp only [World.size_alloc] at hne
      have h13 := At.newB hB 33 #[.int .u64 (n : Int)]
      try simp only at h13
      try have h7 := h7.alloc (.cells #[.int .u64 (n : Int)] 33)
      have hown := hown.alloc (.cells #[.int .u64 (n : Int)] 33)
      have hB := hB.alloc hB.size (.cells #[.int .u64 (n : Int)] 33)
      have hkb := KB.of hB
      refine hK.out _ _ hkb ?_; clear hK K
      try simp only [Act.put, List.setIfInBounds_toArray, List.set_cons_zero, List.set_cons_succ]
      -- 7: Op.buildSlice 25 2 #[(0, Operand.tmp 53), (1, Operand.tmp 56)]
      refine bopH 7 (o := _) (by simp only [List.getElem?_toArray, List.getElem?_cons_succ, List.getElem?_cons_zero]; rfl) (by kernel_rfl) (by first | assumption | exact KB.refl _ | exact kb0 _) (by rfl) (fun K hK => ?_)
      go_simp
      have h7 := At.newB hB 5 #[.int .u8 (fn : Int), .int .u8 (tn : Int)]
      try simp only [World.size_alloc] at h7
      try have h13 := h13.alloc (.cells #[.int .u8 (fn : Int), .int .u8 (tn : Int)] 5)
      have hown := hown.alloc (.cells #[.int .u8 (fn : Int), .int .u8 (tn : Int)] 5)
      have hB := hB.alloc hB.size (.cells #[.int .u8 (fn : Int), .int .u8 (tn : Int)] 5)
      have hkb := KB.of hB
      refine hK.out _ _ hkb ?_; clear hK K
      try simp only [Act.put, List.setIfInBounds_toArray, List.set_cons_zero, List.set_cons_succ]
      -- 8: Op.call { callee := Callee.builtin Builtin.append, args := #[Operand.tmp 50, Operand.tmp 57], argTypes := #[25, 25] }
      refine bopH 8 (o := _) (by simp only [List.getElem?_toArray, List.getElem?_cons_succ, List.getElem?_cons_zero]; rfl) (by kernel_rfl) (by first | assumption | exact KB.refl _ | exact kb0 _) (by rfl) (fun K hK => ?_)
      refine wp_app rfl hown (h7.slb (two_bv fn tn g2 g3)) rfl rfl rfl (by have := HL6.out.2; simp; omega) hB.size ?_
      intro s8 w8 hown8 hg8 hat8
      try have h13 := h13.grown hg8 hne
      have hB := own_below hB hB.size hown hg8
      obtain ⟨L8, hL8⟩ : ∃ L, L6 ++ [UInt8.ofNat fn, UInt8.ofNat tn] = L := ⟨_, rfl⟩
      rw [hL8] at hown8
      have hl8 : L8.length = 9 := by rw [← hL8]; simp [HL6.out.2]
      have HL8 := Lib.hid (And.intro hL8 hl8)
      clear hL8 hl8
      obtain ⟨A8, c8, rfl, hlc8, _⟩ := hown8.form
      clear hown
      have hown := hown8
      have hkb := KB.of hB
      refine hK.out _ _ hkb ?_; clear hK K
      try simp only [Act.put, List.setIfInBounds_toArray, List.set_cons_zero, List.set_cons_succ]
      -- 14: Op.call { callee := Callee.value (Operand.func 35), args := #[Operand.tmp 58, Operand.tmp 63], argTypes := #[25, 66] }
      refine bopH 14 (o := _) (by simp only [List.getElem?_toArray, List.getElem?_cons_succ, List.getElem?_cons_zero]; rfl) (by kernel_rfl) (by first | assumption | exact KB.refl _ | exact kb0 _) (by rfl) (fun K hK => ?_)
      go_simp
      refine (Put_one _ A8 _ _ c8 _ _ n (by rfl) (OwnB.sl hown).1 h13.sl (U64.mk (by have := HN.out.2.2.1; have := HN.out.1; omega)) (by have := HL8.out.2; omega)).mono ?_
      rintro e14 w14 ⟨A14, c14, rfl, hown14, hb14⟩
      obtain ⟨L14, hL14⟩ : ∃ L, L8 ++ enc n = L := ⟨_, rfl⟩
      rw [hL14] at hown14 ⊢
      have HL14 := Lib.hid hL14
      clear hL14
      have hown14 := hown14.lower hB.size
      have hB := hB.trans (hb14.mono hB.size)
      have hkb := KB.of hB
      refine hK.out _ _ hkb ?_; clear hK K
      try simp only [Act.put, List.setIfInBounds_toArray, List.set_cons_zero, List.set_cons_succ]
      refine btake 15 (oi := _) (v := ?_) (by simp only [List.getElem?_toArray, List.getElem?_cons_succ, List.getElem?_cons_zero]; rfl) (by kernel_rfl) (by exact fun _ _ _ h => h) (by first | assumption | exact KB.refl _ | exact kb0 _) (.inl ⟨by rfl, fun W hW => ?_⟩) ?_; rotate_left
      · (go_simp; first | done | with_reducible rfl)
      try simp only [Act.put, List.setIfInBounds_toArray, List.set_cons_zero, List.set_cons_succ]
      refine bdone (by kernel_rfl) ?_
      have hp := hb.below (b2.trans (hB.mono b2.size))
      have f4 := (hA2.below hB).c 4 rfl
      have hl14 : L14.length + n ≤ 140737488350000 := by
        rw [← HL14.out, List.length_append, HN.out.2.2.2.2, HN.out.2.1, HL8.out.2]
        have := HN.out.2.2.1
        have := HN.out.1
        omega
      have hpn := HN.out.1
      go_wp2_with (at_builtin; refine app rfl rfl hown14 hp hpn.symm rfl rfl (by omega) hB.size ?_; intro s15 w15 hown15 hg15 hat15; have hB15 := own_below hB hB.size hown14 hg15; obtain ⟨L15, hL15⟩ : ∃ L, L14 ++ p = L := ⟨_, rfl⟩; rw [hL15] at hown15; obtain ⟨A15, c15, rfl, hlc15, _⟩ := hown15.form; have HL15 := Lib.hid hL15; clear hL15 f4)
      have hl15 : L15.length + 4 ≤ 140737488355328 := by rw [← HL15.out, List.length_append]; omega
      refine (Seal_any w15 A15 L15.length c15 L15 (OwnB.sl hown15).1 rfl hlc15 (OwnB.sl hown15).2.2 hl15).mono ?_
      rintro e16 w16 ⟨A16, c16, rfl, hown16, hb16⟩
      go_wp2_with fail
      go_ret2
      have hres : sealS L15 = (⟨(kn : Int), g, (fn : Int), (tn : Int), p⟩ : Fr).bytes := by
        rw [HB.out, ← HL15.out, ← HL14.out, ← HL8.out.1, ← HL6.out.1, HN.out.2.2.2.2]
        simp
      have hs16 := OwnB.sl hown16
      have hfin : PutPost w (sealS L15, 0) (.returned (.tuple #[.slice A16 (sealS L15).length c16, .int .i64 0])) w16 := ⟨A16, c16, rfl, hs16.1, hs16.2.1, hs16.2.2, b2.trans ((hB15.trans (hb16.mono hB15.size)).mono b2.size)⟩
      rw [← hres]
      exact hfin
  · have q1 : decide ((hh : Int) < 9 + (le : Int) + (n : Int) + 4) = true := by rw [decide_eq_true_eq]; omega
    rw [if_neg hfit]
    clear hn hle hl hF he
    have c0 := hA.c 0 rfl
    have c2 := hA.c 2 rfl
    have c3 := hA.c 3 rfl
    go_enter Try.func27, Try.ntmps27
    go_wp2_with fail
    generalize w.alloc (.cells #[.int .i64 (kn : Int), .int .u32 (g : Int), .int .i64 (fn : Int), .int .i64 (tn : Int), .slice A n c] 47) = w1 at *
    refine (HK.out.1 _).mono ?_
    rintro e w' ⟨rfl, rfl⟩
    go_wp2_with fail
    refine (HK.out.2.1 _).mono ?_
    rintro e w' ⟨rfl, rfl⟩
    go_wp2_with fail
    refine (HK.out.2.2.1 _).mono ?_
    rintro e w' ⟨rfl, rfl⟩
    go_wp2_with fail
    clear c0 c2 c3
    have d4 := hA.e 4 rfl
    refine bstart (by kernel_rfl) ?_
    refine btake 0 (oi := _) (v := ?_) (by simp only [List.getElem?_toArray, List.getElem?_cons_zero]; rfl) (by kernel_rfl) (by exact fun _ _ _ h => h) (by first | assumption | exact KB.refl _) (.inl ⟨by rfl, fun W hW => ?_⟩) ?_; rotate_left
    · (go_simp; first | done | with_reducible rfl)
    try simp only [Act.put, List.setIfInBounds_toArray, List.set_cons_zero, List.set_cons_succ]
    refine btake 1 (oi := _) (v := ?_) (by simp only [List.getElem?_toArray, List.getElem?_cons_succ, List.getElem?_cons_zero]; rfl) (by kernel_rfl) (by exact fun _ _ _ h => h) (by first | assumption | exact KB.refl _) (.inl ⟨by rfl, fun W hW => ?_⟩) ?_; rotate_left
    · (go_simp; first | done | with_reducible rfl)
    try simp only [Act.put, List.setIfInBounds_toArray, List.set_cons_zero, List.set_cons_succ]
    refine btake 2 (oi := _) (v := ?_) (by simp only [List.getElem?_toArray, List.getElem?_cons_succ, List.getElem?_cons_zero]; rfl) (by kernel_rfl) (by exact fun _ _ _ h => h) (by first | assumption | exact KB.refl _) (.inl ⟨by rfl, fun W hW => ?_⟩) ?_; rotate_left
    · (go_simp; first | done | with_reducible rfl)
    try simp only [Act.put, List.setIfInBounds_toArray, List.set_cons_zero, List.set_cons_succ]
    refine btake 3 (oi := _) (v := ?_) (by simp only [List.getElem?_toArray, List.getElem?_cons_succ, List.getElem?_cons_zero]; rfl) (by kernel_rfl) (by exact fun _ _ _ h => h) (by first | assumption | exact KB.refl _) (.inl ⟨by rfl, fun W hW => ?_⟩) ?_; rotate_left
    · (go_simp; first | done | with_reducible rfl)
    try simp only [Act.put, List.setIfInBounds_toArray, List.set_cons_zero, List.set_cons_succ]
    refine btake 6 (oi := _) (v := ?_) (by simp only [List.getElem?_toArray, List.getElem?_cons_succ, List.getElem?_cons_zero]; rfl) (by kernel_rfl) (by exact fun _ _ _ h => h) (by first | assumption | exact KB.refl _) (.inl ⟨by rfl, fun W hW => ?_⟩) ?_; rotate_left
    · (go_simp; first | done | with_reducible rfl)
    try simp only [Act.put, List.setIfInBounds_toArray, List.set_cons_zero, List.set_cons_succ]
    refine btake 7 (oi := _) (v := ?_) (by simp only [List.getElem?_toArray, List.getElem?_cons_succ, List.getElem?_cons_zero]; rfl) (by kernel_rfl) (by exact fun _ _ _ h => h) (by first | assumption | exact KB.refl _) (.inl ⟨by rfl, fun W hW => ?_⟩) ?_; rotate_left
    · (go_simp; first | done | with_reducible rfl)
    try simp only [Act.put, List.setIfInBounds_toArray, List.set_cons_zero, List.set_cons_succ]
    refine btake 8 (oi := _) (v := ?_) (by simp only [List.getElem?_toArray, List.getElem?_cons_succ, List.getElem?_cons_zero]; rfl) (by kernel_rfl) (by exact fun _ _ _ h => h) (by first | assumption | exact KB.refl _) (.inl ⟨by rfl, fun W hW => ?_⟩) ?_; rotate_left
    · (go_simp; first | done | with_reducible rfl)
    try simp only [Act.put, List.setIfInBounds_toArray, List.set_cons_zero, List.set_cons_succ]
    refine btake 11 (oi := _) (v := ?_) (by simp only [List.getElem?_toArray, List.getElem?_cons_succ, List.getElem?_cons_zero]; rfl) (by kernel_rfl) (by exact fun _ _ _ h => h) (by first | assumption | exact KB.refl _) (.inl ⟨by rfl, fun W hW => ?_⟩) ?_; rotate_left
    · (go_simp; first | done | with_reducible rfl)
    try simp only [Act.put, List.setIfInBounds_toArray, List.set_cons_zero, List.set_cons_succ]
    -- 4: newsreel/num.Size
    refine bop 4 (o := _) (by simp only [List.getElem?_toArray, List.getElem?_cons_succ, List.getElem?_cons_zero]; rfl) (by kernel_rfl) (by first | assumption | exact KB.refl _) (by rfl) (fun K hK => ?_)
    go_simp
    refine (HK.out.2.2.2.1 _).mono ?_
    rintro e w2 ⟨rfl, hb2⟩
    have hB2 : Below w1.heap.size w1 w2 := (Below.refl _ w1).drew.trans hb2
    have hkb := KB.of hb2
    have d4 := (hA.below hB2).e 4 rfl
    refine hK.out _ _ hkb ?_; clear hK K
    try simp only [Act.put, List.setIfInBounds_toArray, List.set_cons_zero, List.set_cons_succ]
    refine btake 5 (oi := _) (v := ?_) (by simp only [List.getElem?_toArray, List.getElem?_cons_succ, List.getElem?_cons_zero]; rfl) (by kernel_rfl) (by exact fun _ _ _ h => h) (by first | assumption | exact KB.refl _) (.inl ⟨by rfl, fun W hW => ?_⟩) ?_; rotate_left
    · (go_simp; first | done | with_reducible rfl)
    try simp only [Act.put, List.setIfInBounds_toArray, List.set_cons_zero, List.set_cons_succ]
    refine btake 9 (oi := _) (v := ?_) (by simp only [List.getElem?_toArray, List.getElem?_cons_succ, List.getElem?_cons_zero]; rfl) (by kernel_rfl) (by exact fun _ _ _ h => h) (by first | assumption | exact KB.refl _) (.inl ⟨by rfl, fun W hW => ?_⟩) ?_; rotate_left
    · (go_simp; first | done | with_reducible rfl)
    try simp only [Act.put, List.setIfInBounds_toArray, List.set_cons_zero, List.set_cons_succ]
    refine btake 10 (oi := _) (v := ?_) (by simp only [List.getElem?_toArray, List.getElem?_cons_succ, List.getElem?_cons_zero]; rfl) (by kernel_rfl) (by exact fun _ _ _ h => h) (by first | assumption | exact KB.refl _) (.inl ⟨by rfl, fun W hW => ?_⟩) ?_; rotate_left
    · (go_simp; first | done | with_reducible rfl)
    try simp only [Act.put, List.setIfInBounds_toArray, List.set_cons_zero, List.set_cons_succ]
    -- 12: newsreel/frame.held
    refine bop 12 (o := _) (by simp only [List.getElem?_toArray, List.getElem?_cons_succ, List.getElem?_cons_zero]; rfl) (by kernel_rfl) (by first | assumption | exact KB.refl _) (by rfl) (fun K hK => ?_)
    go_simp
    refine (HK.out.2.2.2.2 _).mono ?_
    rintro e w3 ⟨rfl, rfl⟩
    have hkb := KB.refl w2
    refine hK.out _ _ hkb ?_; clear hK K
    try simp only [Act.put, List.setIfInBounds_toArray, List.set_cons_zero, List.set_cons_succ]
    refine btake 13 (oi := _) (v := ?_) (by simp only [List.getElem?_toArray, List.getElem?_cons_succ, List.getElem?_cons_zero]; rfl) (by kernel_rfl) (by exact fun _ _ _ h => h) (by first | assumption | exact KB.refl _) (.inl ⟨by rfl, fun W hW => ?_⟩) ?_; rotate_left
    · (go_simp; first | done | with_reducible rfl)
    try simp only [Act.put, List.setIfInBounds_toArray, List.set_cons_zero, List.set_cons_succ]
    refine bdone (by kernel_rfl) ?_
    clear ww0 ww1 ww2 ww3 q1 d4
    go_wp2_with fail
    go_ret2
    exact ⟨none, 0, rfl, .inl rfl, by simp, by simp [maxLen], hbw.trans (hB2.mono hbw.size)⟩
theorem FPut_any (w : World) (x : Fr) (A : Option Addr) (c : Nat) (limit : Int) (hb : Sl w w.heap.size A (bv x.p)) (hc : x.p.length ≤ c) (hm : c ≤ maxLen) (hl : x.p.length ≤ 70368744177664) (hg : x.g < 4294967296) :
    Calls Try.prog 27 #[x.v A c, .int .i64 limit] w (PutPost w (putF x limit)) := by
  unfold putF
  by_cases h : x.right = true
  · rw [if_pos h]; exact FPut_yes w x A c limit h hb hc hm hl hg
  · rw [if_neg h]; exact FPut_no w x A c limit (by simpa using h)
set_option maxRecDepth 100000 in
set_option maxHeartbeats 800000 in
theorem RPut_no (w : World) (x : Fr) (A : Option Addr) (c : Nat) (limit : Int) (hr : x.right = false) : Calls Try.prog 28 #[x.v A c, .int .i64 limit] w (PutPost w ([], 21)) := by
  have HK := Lib.hid (fun W => Rknown_any W x A c)
  rw [hr] at HK
  clear hr
  obtain ⟨k, g, f, t, p⟩ := x
  unfold Fr.v at HK ⊢
  simp only at HK ⊢
  have hb := balloc (Below.refl w.heap.size w) (.cells #[.int .i64 k, .int .u32 (g : Int), .int .i64 f, .int .i64 t, .slice A p.length c] 47)
  have hA := At.new w 47 #[.int .i64 k, .int .u32 (g : Int), .int .i64 f, .int .i64 t, .slice A p.length c]
  have c0 := hA.c 0 rfl
  have c1 := hA.c 1 rfl
  have c2 := hA.c 2 rfl
  have c3 := hA.c 3 rfl
  have c4 := hA.c 4 rfl
  go_enter Try.func28, Try.ntmps28
  go_wp2_with fail
  refine (HK.out _).mono ?_
  rintro e w1 ⟨rfl, hb1⟩
  go_wp2_with fail
  go_ret2
  exact ⟨none, 0, rfl, .inl rfl, by simp, by simp [maxLen], hb.trans (hb1.mono hb.size)⟩
set_option maxRecDepth 100000 in
set_option maxHeartbeats 3200000 in
theorem RPut_yes (w : World) (x : Fr) (A : Option Addr) (c : Nat) (limit : Int) (hr : x.right = true) (hb : Sl w w.heap.size A (bv x.p)) (hc : x.p.length ≤ c) (_hm : c ≤ maxLen) (hl : x.p.length ≤ 70368744177664) (hg : x.g < 4294967296) :
    Calls Try.prog 28 #[x.v A c, .int .i64 limit] w (PutPost w (if x.len ≤ heldN limit then (x.bytes, 0) else ([], 23))) := by
  have HK := Lib.hid (fun W => Rknown_any W x A c)
  rw [hr] at HK
  obtain ⟨r1, r2, r3⟩ := right_num hr
  clear hr
  obtain ⟨k, g, f, t, p⟩ := x
  simp only at r1 r2 r3
  obtain ⟨kn, rfl⟩ : ∃ kn : Nat, k = (kn : Int) := ⟨k.toNat, by omega⟩
  obtain ⟨fn, rfl⟩ : ∃ fn : Nat, f = (fn : Int) := ⟨f.toNat, by omega⟩
  obtain ⟨tn, rfl⟩ : ∃ tn : Nat, t = (tn : Int) := ⟨t.toNat, by omega⟩
  obtain ⟨n, hn⟩ : ∃ n, p.length = n := ⟨_, rfl⟩
  obtain ⟨e, he⟩ : ∃ e, enc n = e := ⟨_, rfl⟩
  obtain ⟨le, hle⟩ : ∃ le, e.length = le := ⟨_, rfl⟩
  obtain ⟨ke1, ke2⟩ := enc_len n
  rw [he, hle] at ke1 ke2
  have hlen : (⟨(kn : Int), g, (fn : Int), (tn : Int), p⟩ : Fr).len = 9 + le + n + 4 := by simp only [Fr.len, hn, he, hle]
  obtain ⟨hh, hhe⟩ : ∃ hh, heldN limit = hh := ⟨_, rfl⟩
  have hhl : hh ≤ 65536 := by rw [← hhe]; unfold heldN; (repeat' split) <;> omega
  have hhe' := fun W => Rheld_any W limit
  rw [hhe] at hhe'
  have HH := Lib.hid hhe'
  clear hhe'
  rw [hlen, hhe]
  obtain ⟨r, hr⟩ : ∃ r, (if 9 + le + n + 4 ≤ hh then ((⟨(kn : Int), g, (fn : Int), (tn : Int), p⟩ : Fr).bytes, (0 : Int)) else ([], 23)) = r := ⟨_, rfl⟩
  rw [hr]
  have HR := Lib.hid hr
  clear hr
  have HB := Lib.hid (show (⟨(kn : Int), g, (fn : Int), (tn : Int), p⟩ : Fr).bytes = sealS ([78, 82, UInt8.ofNat kn] ++ fixF g 4 ++ [UInt8.ofNat fn, UInt8.ofNat tn] ++ e ++ p) by rw [← he, ← hn]; rfl)
  clear hlen hhe
  simp only at hb hc hl hg
  have g1 : kn < 256 := by omega
  clear r1
  have g2 : fn < 256 := by omega
  have g3 : tn < 256 := by omega
  obtain ⟨r2a, r2b⟩ := r2
  obtain ⟨r3a, r3b⟩ := r3
  unfold Fr.v at HK ⊢
  simp only at HK ⊢
  rw [hn] at HK ⊢
  have hbw := balloc (Below.refl w.heap.size w) (.cells #[.int .i64 (kn : Int), .int .u32 (g : Int), .int .i64 (fn : Int), .int .i64 (tn : Int), .slice A n c] 47)
  have hA := At.new w 47 #[.int .i64 (kn : Int), .int .u32 (g : Int), .int .i64 (fn : Int), .int .i64 (tn : Int), .slice A n c]
  obtain ⟨F, hF⟩ : ∃ F, fixF g 4 = F := ⟨_, rfl⟩
  have hFl : F.length = 4 := by rw [← hF]; exact fixF_len _ _
  rw [hF] at HB
  have hfix := Lib.hid (fun W => RefFixed_lit W g 4 F (by omega) hF)
  have HN := Lib.hid (And.intro hn (And.intro hle (And.intro hl (And.intro hF (And.intro he hFl)))))
  clear hn hle hl hF he hFl
  have c0 := hA.c 0 rfl
  have c1 := hA.c 1 rfl
  have c2 := hA.c 2 rfl
  have c3 := hA.c 3 rfl
  have c4 := hA.c 4 rfl
  go_enter Try.func28, Try.ntmps28
  go_wp2_with fail
  generalize w.alloc (.cells #[.int .i64 (kn : Int), .int .u32 (g : Int), .int .i64 (fn : Int), .int .i64 (tn : Int), .slice A n c] 47) = w1 at *
  refine (HK.out _).mono ?_
  rintro e1 w2 ⟨rfl, hb2⟩
  have hA2 := hA.below hb2
  have b2 := hbw.trans (hb2.mono hbw.size)
  clear c0 c1 c2 c3 c4
  go_wp2_with fail
  have f0 := hA2.e 0 rfl
  have f1 := hA2.e 1 rfl
  have ww3 : IntKind.u8.wrap (kn : Int) = (kn : Int) := by rw [IntKind.wrap_u8]; omega
  have ww7 : IntKind.u64.wrap (g : Int) = (g : Int) := by rw [IntKind.wrap_u64]; omega
  have hB : Below w2.heap.size w2 w2.drew := (Below.refl _ _).drew
  have hS0 : KB w2.heap w2.drew := KB.of hB
  refine bstartH (w2.heap) (by kernel_rfl) ?_
  refine btake 0 (oi := _) (v := ?_) (by simp only [List.getElem?_toArray, List.getElem?_cons_zero]; rfl) (by kernel_rfl) (by exact fun _ _ _ h => h) (by first | assumption | exact KB.refl _ | exact kb0 _) (.inl ⟨by rfl, fun W hW => ?_⟩) ?_; rotate_left
  · (go_simp; first | done | with_reducible rfl)
  try simp only [Act.put, List.setIfInBounds_toArray, List.set_cons_zero, List.set_cons_succ]
  refine btake 1 (oi := _) (v := ?_) (by simp only [List.getElem?_toArray, List.getElem?_cons_succ, List.getElem?_cons_zero]; rfl) (by kernel_rfl) (by exact fun _ _ _ h => h) (by first | assumption | exact KB.refl _ | exact kb0 _) (.inl ⟨by rfl, fun W hW => ?_⟩) ?_; rotate_left
  · (go_simp; first | done | with_reducible rfl)
  try simp only [Act.put, List.setIfInBounds_toArray, List.set_cons_zero, List.set_cons_succ]
  refine btake 2 (oi := _) (v := ?_) (by simp only [List.getElem?_toArray, List.getElem?_cons_succ, List.getElem?_cons_zero]; rfl) (by kernel_rfl) (by exact fun _ _ _ h => h) (by first | assumption | exact KB.refl _ | exact kb0 _) (.inl ⟨by rfl, fun W hW => ?_⟩) ?_; rotate_left
  · (go_simp; first | done | with_reducible rfl)
  try simp only [Act.put, List.setIfInBounds_toArray, List.set_cons_zero, List.set_cons_succ]
  refine btake 4 (oi := _) (v := ?_) (by simp only [List.getElem?_toArray, List.getElem?_cons_succ, List.getElem?_cons_zero]; rfl) (by kernel_rfl) (by exact fun _ _ _ h => h) (by first | assumption | exact KB.refl _ | exact kb0 _) (.inl ⟨by rfl, fun W hW => ?_⟩) ?_; rotate_left
  · (go_simp; first | done | with_reducible rfl)
  try simp only [Act.put, List.setIfInBounds_toArray, List.set_cons_zero, List.set_cons_succ]
  refine btake 5 (oi := _) (v := ?_) (by simp only [List.getElem?_toArray, List.getElem?_cons_succ, List.getElem?_cons_zero]; rfl) (by kernel_rfl) (by exact fun _ _ _ h => h) (by first | assumption | exact KB.refl _ | exact kb0 _) (.inl ⟨by rfl, fun W hW => ?_⟩) ?_; rotate_left
  · (go_simp; first | done | with_reducible rfl)
  try simp only [Act.put, List.setIfInBounds_toArray, List.set_cons_zero, List.set_cons_succ]
  refine btake 6 (oi := _) (v := ?_) (by simp only [List.getElem?_toArray, List.getElem?_cons_succ, List.getElem?_cons_zero]; rfl) (by kernel_rfl) (by exact fun _ _ _ h => h) (by first | assumption | exact KB.refl _ | exact kb0 _) (.inl ⟨by rfl, fun W hW => ?_⟩) ?_; rotate_left
  · (go_simp; first | done | with_reducible rfl)
  try simp only [Act.put, List.setIfInBounds_toArray, List.set_cons_zero, List.set_cons_succ]
  refine bopH2 3 7 (oi := _) (oj := _) (by simp only [List.getElem?_toArray, List.getElem?_cons_succ, List.getElem?_cons_zero]; rfl) (by simp only [List.getElem?_toArray, List.getElem?_cons_succ, List.getElem?_cons_zero]; rfl) (by kernel_rfl) (by first | assumption | exact KB.refl _ | exact kb0 _) (by rfl) (by rfl) (fun K hK => ?_) (fun K hK => ?_)
  · -- 3: Op.buildSlice 25 3 #[(0, Operand.const (Value.int IntKind.u8 78)), (1, Operand.const (Value.int IntKind.u8 82)), (2, Ope
    go_simp
    have hown := (OwnB.lit _ w2.heap.size [78, 82, UInt8.ofNat kn] hB.size (by simp [maxLen]))
    rw [show (bv [78, 82, UInt8.ofNat kn]).toArray = #[.int .u8 78, .int .u8 82, .int .u8 (kn : Int)] by simp [bv, u8v, Nat.mod_eq_of_lt g1]] at hown
    try simp only [List.length_cons, List.length_nil] at hown
    try have hF7 := hF7.alloc (.cells #[.int .u8 78, .int .u8 82, .int .u8 (kn : Int)] 5)
    have hB := hB.alloc hB.size (.cells #[.int .u8 78, .int .u8 82, .int .u8 (kn : Int)] 5)
    have hkb := KB.of hB
    refine hK.out _ _ hkb ?_; clear hK K
    try simp only [Act.put, List.setIfInBounds_toArray, List.set_cons_zero, List.set_cons_succ]
    -- 7: Op.call { callee := Callee.value (Operand.func 46), args := #[Operand.tmp 16, Operand.const (Value.int IntKind.i64 4)], 
    refine bopH 7 (o := _) (by simp only [List.getElem?_toArray, List.getElem?_cons_succ, List.getElem?_cons_zero]; rfl) (by kernel_rfl) (by first | assumption | exact KB.refl _ | exact kb0 _) (by rfl) (fun K hK => ?_)
    go_simp
    refine (hfix.out _).mono ?_
    rintro e7 w7 ⟨A7, c7, rfl, hF7, hb7⟩
    try have hown := OwnB.below hown hb7
    have hB := hB.trans (hb7.mono hB.size)
    have hkb := KB.of hB
    refine hK.out _ _ hkb ?_; clear hK K
    try simp only [Act.put, List.setIfInBounds_toArray, List.set_cons_zero, List.set_cons_succ]
    -- 8: Op.call { callee := Callee.builtin Builtin.append, args := #[Operand.tmp 13, Operand.tmp 17], argTypes := #[25, 25] }
    refine bopH 8 (o := _) (by simp only [List.getElem?_toArray, List.getElem?_cons_succ, List.getElem?_cons_zero]; rfl) (by kernel_rfl) (by first | assumption | exact KB.refl _ | exact kb0 _) (by rfl) (fun K hK => ?_)
    refine wp_app rfl hown (OwnB.sl hF7).1 (by rfl) rfl rfl (by have := HN.out.2.2.2.2.2; simp; omega) hB.size ?_
    intro s6 w6 hown6 hg6 hat6
    have b6 := own_below hB hB.size hown hg6
    obtain ⟨L6, hL6⟩ : ∃ L, [78, 82, UInt8.ofNat kn] ++ F = L := ⟨_, rfl⟩
    rw [hL6] at hown6
    have hl6 : L6.length = 7 := by rw [← hL6]; simp [HN.out.2.2.2.2.2]
    have HL6 := Lib.hid (And.intro hL6 hl6)
    clear hL6 hl6 hown
    obtain ⟨A6, c6, rfl, _⟩ := hown6.form
    have hkb := KB.of b6
    refine hK.out _ _ hkb ?_; clear hK K
    try simp only [Act.put, List.setIfInBounds_toArray, List.set_cons_zero, List.set_cons_succ]
    refine btake 9 (oi := _) (v := ?_) (by simp only [List.getElem?_toArray, List.getElem?_cons_succ, List.getElem?_cons_zero]; rfl) (by kernel_rfl) (by exact fun _ _ _ h => h) (by first | assumption | exact KB.refl _ | exact kb0 _) (.inl ⟨by rfl, fun W hW => ?_⟩) ?_; rotate_left
    · (go_simp; first | done | with_reducible rfl)
    try simp only [Act.put, List.setIfInBounds_toArray, List.set_cons_zero, List.set_cons_succ]
    refine bdone (by kernel_rfl) ?_
    clear hF7 hg6 hat6 hB f0 f1 ww3 ww7 hkb hS0 hb7
    have f2 := hA2.e 2 rfl
    have f3 := hA2.e 3 rfl
    have f4 := hA2.e 4 rfl
    have ww4 : IntKind.u8.wrap (fn : Int) = (fn : Int) := by rw [IntKind.wrap_u8]; omega
    have ww5 : IntKind.u8.wrap (tn : Int) = (tn : Int) := by rw [IntKind.wrap_u8]; omega
    have ww6 : IntKind.u64.wrap (n : Int) = (n : Int) := by have := HN.out.2.2.1; have := HN.out.1; rw [IntKind.wrap_u64]; omega
    have hB := b6.drew
    have hS0 : KB w2.heap w6.drew := KB.of hB
    have hown : OwnB w6.drew _ _ _ := hown6
    go_wp2_with fail
    refine bstartH (w2.heap) (by kernel_rfl) ?_
    refine btake 0 (oi := _) (v := ?_) (by simp only [List.getElem?_toArray, List.getElem?_cons_zero]; rfl) (by kernel_rfl) (by exact fun _ _ _ h => h) (by first | assumption | exact KB.refl _ | exact kb0 _) (.inl ⟨by rfl, fun W hW => ?_⟩) ?_; rotate_left
    · (go_simp; first | done | with_reducible rfl)
    try simp only [Act.put, List.setIfInBounds_toArray, List.set_cons_zero, List.set_cons_succ]
    refine btake 1 (oi := _) (v := ?_) (by simp only [List.getElem?_toArray, List.getElem?_cons_succ, List.getElem?_cons_zero]; rfl) (by kernel_rfl) (by exact fun _ _ _ h => h) (by first | assumption | exact KB.refl _ | exact kb0 _) (.inl ⟨by rfl, fun W hW => ?_⟩) ?_; rotate_left
    · (go_simp; first | done | with_reducible rfl)
    try simp only [Act.put, List.setIfInBounds_toArray, List.set_cons_zero, List.set_cons_succ]
    refine btake 2 (oi := _) (v := ?_) (by simp only [List.getElem?_toArray, List.getElem?_cons_succ, List.getElem?_cons_zero]; rfl) (by kernel_rfl) (by exact fun _ _ _ h => h) (by first | assumption | exact KB.refl _ | exact kb0 _) (.inl ⟨by rfl, fun W hW => ?_⟩) ?_; rotate_left
    · (go_simp; first | done | with_reducible rfl)
    try simp only [Act.put, List.setIfInBounds_toArray, List.set_cons_zero, List.set_cons_succ]
    refine btake 3 (oi := _) (v := ?_) (by simp only [List.getElem?_toArray, List.getElem?_cons_succ, List.getElem?_cons_zero]; rfl) (by kernel_rfl) (by exact fun _ _ _ h => h) (by first | assumption | exact KB.refl _ | exact kb0 _) (.inl ⟨by rfl, fun W hW => ?_⟩) ?_; rotate_left
    · (go_simp; first | done | with_reducible rfl)
    try simp only [Act.put, List.setIfInBounds_toArray, List.set_cons_zero, List.set_cons_succ]
    refine btake 4 (oi := _) (v := ?_) (by simp only [List.getElem?_toArray, List.getElem?_cons_succ, List.getElem?_cons_zero]; rfl) (by kernel_rfl) (by exact fun _ _ _ h => h) (by first | assumption | exact KB.refl _ | exact kb0 _) (.inl ⟨by rfl, fun W hW => ?_⟩) ?_; rotate_left
    · (go_simp; first | done | with_reducible rfl)
    try simp only [Act.put, List.setIfInBounds_toArray, List.set_cons_zero, List.set_cons_succ]
    refine btake 5 (oi := _) (v := ?_) (by simp only [List.getElem?_toArray, List.getElem?_cons_succ, List.getElem?_cons_zero]; rfl) (by kernel_rfl) (by exact fun _ _ _ h => h) (by first | assumption | exact KB.refl _ | exact kb0 _) (.inl ⟨by rfl, fun W hW => ?_⟩) ?_; rotate_left
    · (go_simp; first | done | with_reducible rfl)
    try simp only [Act.put, List.setIfInBounds_toArray, List.set_cons_zero, List.set_cons_succ]
    refine btake 6 (oi := _) (v := ?_) (by simp only [List.getElem?_toArray, List.getElem?_cons_succ, List.getElem?_cons_zero]; rfl) (by kernel_rfl) (by exact fun _ _ _ h => h) (by first | assumption | exact KB.refl _ | exact kb0 _) (.inl ⟨by rfl, fun W hW => ?_⟩) ?_; rotate_left
    · (go_simp; first | done | with_reducible rfl)
    try simp only [Act.put, List.setIfInBounds_toArray, List.set_cons_zero, List.set_cons_succ]
    refine btake 9 (oi := _) (v := ?_) (by simp only [List.getElem?_toArray, List.getElem?_cons_succ, List.getElem?_cons_zero]; rfl) (by kernel_rfl) (by exact fun _ _ _ h => h) (by first | assumption | exact KB.refl _ | exact kb0 _) (.inl ⟨by rfl, fun W hW => ?_⟩) ?_; rotate_left
    · (go_simp; first | done | with_reducible rfl)
    try simp only [Act.put, List.setIfInBounds_toArray, List.set_cons_zero, List.set_cons_succ]
    refine btake 10 (oi := _) (v := ?_) (by simp only [List.getElem?_toArray, List.getElem?_cons_succ, List.getElem?_cons_zero]; rfl) (by kernel_rfl) (by exact fun _ _ _ h => h) (by first | assumption | exact KB.refl _ | exact kb0 _) (.inl ⟨by rfl, fun W hW => ?_⟩) ?_; rotate_left
    · (go_simp; first | done | with_reducible rfl)
    try simp only [Act.put, List.setIfInBounds_toArray, List.set_cons_zero, List.set_cons_succ]
    refine btake 11 (oi := _) (v := ?_) (by simp only [List.getElem?_toArray, List.getElem?_cons_succ, List.getElem?_cons_zero]; rfl) (by kernel_rfl) (by exact fun _ _ _ h => h) (by first | assumption | exact KB.refl _ | exact kb0 _) (.inl ⟨by rfl, fun W hW => ?_⟩) ?_; rotate_left
    · (go_simp; first | done | with_reducible rfl)
    try simp only [Act.put, List.setIfInBounds_toArray, List.set_cons_zero, List.set_cons_succ]
    refine btake 12 (oi := _) (v := ?_) (by simp only [List.getElem?_toArray, List.getElem?_cons_succ, List.getElem?_cons_zero]; rfl) (by kernel_rfl) (by exact fun _ _ _ h => h) (by first | assumption | exact KB.refl _ | exact kb0 _) (.inl ⟨by rfl, fun W hW => ?_⟩) ?_; rotate_left
    · (go_simp; first | done | with_reducible rfl)
    try simp only [Act.put, List.setIfInBounds_toArray, List.set_cons_zero, List.set_cons_succ]
    refine bopH2 7 13 (oi := _) (oj := _) (by simp only [List.getElem?_toArray, List.getElem?_cons_succ, List.getElem?_cons_zero]; rfl) (by simp only [List.getElem?_toArray, List.getElem?_cons_succ, List.getElem?_cons_zero]; rfl) (by kernel_rfl) (by first | assumption | exact KB.refl _ | exact kb0 _) (by rfl) (by rfl) (fun K hK => ?_) (fun K hK => ?_)
    · -- 7: Op.buildSlice 25 2 #[(0, Operand.tmp 22), (1, Operand.tmp 25)]
      go_simp
      have h7 := At.newB hB 5 #[.int .u8 (fn : Int), .int .u8 (tn : Int)]
      try simp only at h7
      try have h13 := h13.alloc (.cells #[.int .u8 (fn : Int), .int .u8 (tn : Int)] 5)
      have hown := hown.alloc (.cells #[.int .u8 (fn : Int), .int .u8 (tn : Int)] 5)
      have hB := hB.alloc hB.size (.cells #[.int .u8 (fn : Int), .int .u8 (tn : Int)] 5)
      have hkb := KB.of hB
      refine hK.out _ _ hkb ?_; clear hK K
      try simp only [Act.put, List.setIfInBounds_toArray, List.set_cons_zero, List.set_cons_succ]
      refine bopH2 8 13 (oi := _) (oj := _) (by simp only [List.getElem?_toArray, List.getElem?_cons_succ, List.getElem?_cons_zero]; rfl) (by simp only [List.getElem?_toArray, List.getElem?_cons_succ, List.getElem?_cons_zero]; rfl) (by kernel_rfl) (by first | assumption | exact KB.refl _ | exact kb0 _) (by rfl) (by rfl) (fun K hK => ?_) (fun K hK => ?_)
      · -- 8: Op.call { callee := Callee.builtin Builtin.append, args := #[Operand.tmp 19, Operand.tmp 26], argTypes := #[25, 25] }
        refine wp_app rfl hown (h7.slb (two_bv fn tn g2 g3)) rfl rfl rfl (by have := HL6.out.2; simp; omega) hB.size ?_
        intro s8 w8 hown8 hg8 hat8
        try have h13 := h13.grown hg8 hne
        have hB := own_below hB hB.size hown hg8
        obtain ⟨L8, hL8⟩ : ∃ L, L6 ++ [UInt8.ofNat fn, UInt8.ofNat tn] = L := ⟨_, rfl⟩
        rw [hL8] at hown8
        have hl8 : L8.length = 9 := by rw [← hL8]; simp [HL6.out.2]
        have HL8 := Lib.hid (And.intro hL8 hl8)
        clear hL8 hl8
        obtain ⟨A8, c8, rfl, hlc8, _⟩ := hown8.form
        clear hown
        have hown := hown8
        have hkb := KB.of hB
        refine hK.out _ _ hkb ?_; clear hK K
        try simp only [Act.put, List.setIfInBounds_toArray, List.set_cons_zero, List.set_cons_succ]
        -- 13: Op.buildSlice 66 1 #[(0, Operand.tmp 31)]
        refine bopH 13 (o := _) (by simp only [List.getElem?_toArray, List.getElem?_cons_succ, List.getElem?_cons_zero]; rfl) (by kernel_rfl) (by first | assumption | exact KB.refl _ | exact kb0 _) (by rfl) (fun K hK => ?_)
        go_simp
        have hne := own_ne hown
        try simp only [World.size_alloc] at hne
        have h13 := At.newB hB 33 #[.int .u64 (n : Int)]
        try simp only at h13
        try have h7 := h7.alloc (.cells #[.int .u64 (n : Int)] 33)
        have hown := hown.alloc (.cells #[.int .u64 (n : Int)] 33)
        have hB := hB.alloc hB.size (.cells #[.int .u64 (n : Int)] 33)
        have hkb := KB.of hB
        refine hK.out _ _ hkb ?_; clear hK K
        try simp only [Act.put, List.setIfInBounds_toArray, List.set_cons_zero, List.set_cons_succ]
        -- 14: Op.call { callee := Callee.value (Operand.func 20), args := #[Operand.tmp 27, Operand.tmp 32], argTypes := #[25, 66] }
        refine bopH 14 (o := _) (by simp only [List.getElem?_toArray, List.getElem?_cons_succ, List.getElem?_cons_zero]; rfl) (by kernel_rfl) (by first | assumption | exact KB.refl _ | exact kb0 _) (by rfl) (fun K hK => ?_)
        go_simp
        refine (RefPut_one _ A8 _ _ c8 _ _ n (by rfl) (OwnB.sl hown).1 h13.sl (U64.mk (by have := HN.out.2.2.1; have := HN.out.1; omega)) (by have := HL8.out.2; omega)).mono ?_
        rintro e14 w14 ⟨A14, c14, rfl, hown14, hb14⟩
        obtain ⟨L14, hL14⟩ : ∃ L, L8 ++ enc n = L := ⟨_, rfl⟩
        rw [hL14] at hown14 ⊢
        have HL14 := Lib.hid hL14
        clear hL14
        have hown14 := hown14.lower hB.size
        have hB := hB.trans (hb14.mono hB.size)
        have hkb := KB.of hB
        refine hK.out _ _ hkb ?_; clear hK K
        try simp only [Act.put, List.setIfInBounds_toArray, List.set_cons_zero, List.set_cons_succ]
        refine btake 15 (oi := _) (v := ?_) (by simp only [List.getElem?_toArray, List.getElem?_cons_succ, List.getElem?_cons_zero]; rfl) (by kernel_rfl) (by exact fun _ _ _ h => h) (by first | assumption | exact KB.refl _ | exact kb0 _) (.inl ⟨by rfl, fun W hW => ?_⟩) ?_; rotate_left
        · (go_simp; first | done | with_reducible rfl)
        try simp only [Act.put, List.setIfInBounds_toArray, List.set_cons_zero, List.set_cons_succ]
        refine bdone (by kernel_rfl) ?_
        clear f2 f3 f4 ww4 ww5 ww6 hkb hS0
        have hp := hb.below (b2.trans (hB.mono b2.size))
        have f4 := (hA2.below hB).c 4 rfl
        have hl14 : L14.length = 9 + le := by rw [← HL14.out, List.length_append, HN.out.2.2.2.2.1, HN.out.2.1, HL8.out.2]
        have hnl : n ≤ 70368744177664 := by have := HN.out.2.2.1; have := HN.out.1; omega
        have hpn := HN.out.1
        have HL14' := Lib.hid hl14
        clear hl14
        go_wp2_with (at_builtin; refine app rfl rfl hown14 hp hpn.symm rfl rfl (by have := HL14'.out; omega) hB.size ?_; intro s15 w15 hown15 hg15 hat15; have hB15 := own_below hB hB.size hown14 hg15; obtain ⟨L15, hL15⟩ : ∃ L, L14 ++ p = L := ⟨_, rfl⟩; rw [hL15] at hown15; obtain ⟨A15, c15, rfl, hlc15, _⟩ := hown15.form; have HL15 := Lib.hid hL15; clear hL15 f4)
        have hl15 : L15.length = 9 + le + n := by rw [← HL15.out, List.length_append, HL14'.out, hpn]
        refine (RefSeal_any w15 A15 L15.length c15 L15 (OwnB.sl hown15).1 rfl hlc15 (OwnB.sl hown15).2.2 (by omega)).mono ?_
        rintro e16 w16 ⟨A16, c16, rfl, hown16, hb16⟩
        have hres : sealS L15 = (⟨(kn : Int), g, (fn : Int), (tn : Int), p⟩ : Fr).bytes := by
          rw [HB.out, ← HL15.out, ← HL14.out, ← HL8.out.1, ← HL6.out.1, HN.out.2.2.2.2.1]
        have hs16 := OwnB.sl hown16
        have hb17 := b2.trans ((hB15.trans (hb16.mono hB15.size)).mono b2.size)
        have hlS : (sealS L15).length = 9 + le + n + 4 := by rw [sealS, List.length_append, fixF_len, hl15]
        obtain ⟨S, hS⟩ : ∃ S, sealS L15 = S := ⟨_, rfl⟩
        rw [hS] at hlS hs16 hres ⊢
        have HS := Lib.hid (And.intro hlS (And.intro hs16 (And.intro hres hb17)))
        clear hlS hs16 hres hb17 hl15 hpn
        by_cases hfit : 9 + le + n + 4 ≤ hh
        · have hlS := HS.out.1
          have hq : decide ((hh : Int) < 9 + (le : Int) + (n : Int) + 4) = false := by rw [decide_eq_false_iff_not]; omega
          go_wp2_with fail
          refine (HH.out _).mono ?_
          rintro e17 w17 ⟨rfl, rfl⟩
          go_wp2_with fail
          go_ret2
          have hr := HR.out
          rw [if_pos hfit] at hr
          rw [← hr, ← HS.out.2.2.1]
          exact ⟨A16, c16, by show _ = Ending.returned (.tuple #[.slice A16 S.length c16, .int .i64 0]); rw [hlS]; rfl, HS.out.2.1.1, HS.out.2.1.2.1, HS.out.2.1.2.2, HS.out.2.2.2⟩
        · have hlS := HS.out.1
          have hq : decide ((hh : Int) < 9 + (le : Int) + (n : Int) + 4) = true := by rw [decide_eq_true_eq]; omega
          go_wp2_with fail
          refine (HH.out _).mono ?_
          rintro e17 w17 ⟨rfl, rfl⟩
          go_wp2_with fail
          go_ret2
          have hr := HR.out
          rw [if_neg hfit] at hr
          rw [← hr]
          exact ⟨none, 0, rfl, .inl rfl, by simp, by simp [maxLen], HS.out.2.2.2⟩
      · -- 13: Op.buildSlice 66 1 #[(0, Operand.tmp 31)]
        go_simp
        have hne := own_ne hown
        try simp only [World.size_alloc] at hne
        have h13 := At.newB hB 33 #[.int .u64 (n : Int)]
        try simp only [World.size_alloc] at h13
        try have h7 := h7.alloc (.cells #[.int .u64 (n : Int)] 33)
        have hown := hown.alloc (.cells #[.int .u64 (n : Int)] 33)
        have hB := hB.alloc hB.size (.cells #[.int .u64 (n : Int)] 33)
        have hkb := KB.of hB
        refine hK.out _ _ hkb ?_; clear hK K
        try simp only [Act.put, List.setIfInBounds_toArray, List.set_cons_zero, List.set_cons_succ]
        -- 8: Op.call { callee := Callee.builtin Builtin.append, args := #[Operand.tmp 19, Operand.tmp 26], argTypes := #[25, 25] }
        refine bopH 8 (o := _) (by simp only [List.getElem?_toArray, List.getElem?_cons_succ, List.getElem?_cons_zero]; rfl) (by kernel_rfl) (by first | assumption | exact KB.refl _ | exact kb0 _) (by rfl) (fun K hK => ?_)
        refine wp_app rfl hown (h7.slb (two_bv fn tn g2 g3)) rfl rfl rfl (by have := HL6.out.2; simp; omega) hB.size ?_
        intro s8 w8 hown8 hg8 hat8
        try have h13 := h13.grown hg8 hne
        have hB := own_below hB hB.size hown hg8
        obtain ⟨L8, hL8⟩ : ∃ L, L6 ++ [UInt8.ofNat fn, UInt8.ofNat tn] = L := ⟨_, rfl⟩
        rw [hL8] at hown8
        have hl8 : L8.length = 9 := by rw [← hL8]; simp [HL6.out.2]
        have HL8 := Lib.hid (And.intro hL8 hl8)
        clear hL8 hl8
        obtain ⟨A8, c8, rfl, hlc8, _⟩ := hown8.form
        clear hown
        have hown := hown8
        have hkb := KB.of hB
        refine hK.out _ _ hkb ?_; clear hK K
        try simp only [Act.put, List.setIfInBounds_toArray, List.set_cons_zero, List.set_cons_succ]
        -- 14: Op.call { callee := Callee.value (Operand.func 20), args := #[Operand.tmp 27, Operand.tmp 32], argTypes := #[25, 66] }
        refine bopH 14 (o := _) (by simp only [List.getElem?_toArray, List.getElem?_cons_succ, List.getElem?_cons_zero]; rfl) (by kernel_rfl) (by first | assumption | exact KB.refl _ | exact kb0 _) (by rfl) (fun K hK => ?_)
        go_simp
        refine (RefPut_one _ A8 _ _ c8 _ _ n (by rfl) (OwnB.sl hown).1 h13.sl (U64.mk (by have := HN.out.2.2.1; have := HN.out.1; omega)) (by have := HL8.out.2; omega)).mono ?_
        rintro e14 w14 ⟨A14, c14, rfl, hown14, hb14⟩
        obtain ⟨L14, hL14⟩ : ∃ L, L8 ++ enc n = L := ⟨_, rfl⟩
        rw [hL14] at hown14 ⊢
        have HL14 := Lib.hid hL14
        clear hL14
        have hown14 := hown14.lower hB.size
        have hB := hB.trans (hb14.mono hB.size)
        have hkb := KB.of hB
        refine hK.out _ _ hkb ?_; clear hK K
        try simp only [Act.put, List.setIfInBounds_toArray, List.set_cons_zero, List.set_cons_succ]
        refine btake 15 (oi := _) (v := ?_) (by simp only [List.getElem?_toArray, List.getElem?_cons_succ, List.getElem?_cons_zero]; rfl) (by kernel_rfl) (by exact fun _ _ _ h => h) (by first | assumption | exact KB.refl _ | exact kb0 _) (.inl ⟨by rfl, fun W hW => ?_⟩) ?_; rotate_left
        · (go_simp; first | done | with_reducible rfl)
        try simp only [Act.put, List.setIfInBounds_toArray, List.set_cons_zero, List.set_cons_succ]
        refine bdone (by kernel_rfl) ?_
        clear f2 f3 f4 ww4 ww5 ww6 hkb hS0
        have hp := hb.below (b2.trans (hB.mono b2.size))
        have f4 := (hA2.below hB).c 4 rfl
        have hl14 : L14.length = 9 + le := by rw [← HL14.out, List.length_append, HN.out.2.2.2.2.1, HN.out.2.1, HL8.out.2]
        have hnl : n ≤ 70368744177664 := by have := HN.out.2.2.1; have := HN.out.1; omega
        have hpn := HN.out.1
        have HL14' := Lib.hid hl14
        clear hl14
        go_wp2_with (at_builtin; refine app rfl rfl hown14 hp hpn.symm rfl rfl (by have := HL14'.out; omega) hB.size ?_; intro s15 w15 hown15 hg15 hat15; have hB15 := own_below hB hB.size hown14 hg15; obtain ⟨L15, hL15⟩ : ∃ L, L14 ++ p = L := ⟨_, rfl⟩; rw [hL15] at hown15; obtain ⟨A15, c15, rfl, hlc15, _⟩ := hown15.form; have HL15 := Lib.hid hL15; clear hL15 f4)
        have hl15 : L15.length = 9 + le + n := by rw [← HL15.out, List.length_append, HL14'.out, hpn]
        refine (RefSeal_any w15 A15 L15.length c15 L15 (OwnB.sl hown15).1 rfl hlc15 (OwnB.sl hown15).2.2 (by omega)).mono ?_
        rintro e16 w16 ⟨A16, c16, rfl, hown16, hb16⟩
        have hres : sealS L15 = (⟨(kn : Int), g, (fn : Int), (tn : Int), p⟩ : Fr).bytes := by
          rw [HB.out, ← HL15.out, ← HL14.out, ← HL8.out.1, ← HL6.out.1, HN.out.2.2.2.2.1]
        have hs16 := OwnB.sl hown16
        have hb17 := b2.trans ((hB15.trans (hb16.mono hB15.size)).mono b2.size)
        have hlS : (sealS L15).length = 9 + le + n + 4 := by rw [sealS, List.length_append, fixF_len, hl15]
        obtain ⟨S, hS⟩ : ∃ S, sealS L15 = S := ⟨_, rfl⟩
        rw [hS] at hlS hs16 hres ⊢
        have HS := Lib.hid (And.intro hlS (And.intro hs16 (And.intro hres hb17)))
        clear hlS hs16 hres hb17 hl15 hpn
        by_cases hfit : 9 + le + n + 4 ≤ hh
        · have hlS := HS.out.1
          have hq : decide ((hh : Int) < 9 + (le : Int) + (n : Int) + 4) = false := by rw [decide_eq_false_iff_not]; omega
          go_wp2_with fail
          refine (HH.out _).mono ?_
          rintro e17 w17 ⟨rfl, rfl⟩
          go_wp2_with fail
          go_ret2
          have hr := HR.out
          rw [if_pos hfit] at hr
          rw [← hr, ← HS.out.2.2.1]
          exact ⟨A16, c16, by show _ = Ending.returned (.tuple #[.slice A16 S.length c16, .int .i64 0]); rw [hlS]; rfl, HS.out.2.1.1, HS.out.2.1.2.1, HS.out.2.1.2.2, HS.out.2.2.2⟩
        · have hlS := HS.out.1
          have hq : decide ((hh : Int) < 9 + (le : Int) + (n : Int) + 4) = true := by rw [decide_eq_true_eq]; omega
          go_wp2_with fail
          refine (HH.out _).mono ?_
          rintro e17 w17 ⟨rfl, rfl⟩
          go_wp2_with fail
          go_ret2
          have hr := HR.out
          rw [if_neg hfit] at hr
          rw [← hr]
          exact ⟨none, 0, rfl, .inl rfl, by simp, by simp [maxLen], HS.out.2.2.2⟩
    · -- 13: Op.buildSlice 66 1 #[(0, Operand.tmp 31)]
      go_simp
      have hne := own_ne hown
      try simp only [World.size_alloc] at hne
      have h13 := At.newB hB 33 #[.int .u64 (n : Int)]
      try simp only at h13
      try have h7 := h7.alloc (.cells #[.int .u64 (n : Int)] 33)
      have hown := hown.alloc (.cells #[.int .u64 (n : Int)] 33)
      have hB := hB.alloc hB.size (.cells #[.int .u64 (n : Int)] 33)
      have hkb := KB.of hB
      refine hK.out _ _ hkb ?_; clear hK K
      try simp only [Act.put, List.setIfInBounds_toArray, List.set_cons_zero, List.set_cons_succ]
      -- 7: Op.buildSlice 25 2 #[(0, Operand.tmp 22), (1, Operand.tmp 25)]
      refine bopH 7 (o := _) (by simp only [List.getElem?_toArray, List.getElem?_cons_succ, List.getElem?_cons_zero]; rfl) (by kernel_rfl) (by first | assumption | exact KB.refl _ | exact kb0 _) (by rfl) (fun K hK => ?_)
      go_simp
      have h7 := At.newB hB 5 #[.int .u8 (fn : Int), .int .u8 (tn : Int)]
      try simp only [World.size_alloc] at h7
      try have h13 := h13.alloc (.cells #[.int .u8 (fn : Int), .int .u8 (tn : Int)] 5)
      have hown := hown.alloc (.cells #[.int .u8 (fn : Int), .int .u8 (tn : Int)] 5)
      have hB := hB.alloc hB.size (.cells #[.int .u8 (fn : Int), .int .u8 (tn : Int)] 5)
      have hkb := KB.of hB
      refine hK.out _ _ hkb ?_; clear hK K
      try simp only [Act.put, List.setIfInBounds_toArray, List.set_cons_zero, List.set_cons_succ]
      -- 8: Op.call { callee := Callee.builtin Builtin.append, args := #[Operand.tmp 19, Operand.tmp 26], argTypes := #[25, 25] }
      refine bopH 8 (o := _) (by simp only [List.getElem?_toArray, List.getElem?_cons_succ, List.getElem?_cons_zero]; rfl) (by kernel_rfl) (by first | assumption | exact KB.refl _ | exact kb0 _) (by rfl) (fun K hK => ?_)
      refine wp_app rfl hown (h7.slb (two_bv fn tn g2 g3)) rfl rfl rfl (by have := HL6.out.2; simp; omega) hB.size ?_
      intro s8 w8 hown8 hg8 hat8
      try have h13 := h13.grown hg8 hne
      have hB := own_below hB hB.size hown hg8
      obtain ⟨L8, hL8⟩ : ∃ L, L6 ++ [UInt8.ofNat fn, UInt8.ofNat tn] = L := ⟨_, rfl⟩
      rw [hL8] at hown8
      have hl8 : L8.length = 9 := by rw [← hL8]; simp [HL6.out.2]
      have HL8 := Lib.hid (And.intro hL8 hl8)
      clear hL8 hl8
      obtain ⟨A8, c8, rfl, hlc8, _⟩ := hown8.form
      clear hown
      have hown := hown8
      have hkb := KB.of hB
      refine hK.out _ _ hkb ?_; clear hK K
      try simp only [Act.put, List.setIfInBounds_toArray, List.set_cons_zero, List.set_cons_succ]
      -- 14: Op.call { callee := Callee.value (Operand.func 20), args := #[Operand.tmp 27, Operand.tmp 32], argTypes := #[25, 66] }
      refine bopH 14 (o := _) (by simp only [List.getElem?_toArray, List.getElem?_cons_succ, List.getElem?_cons_zero]; rfl) (by kernel_rfl) (by first | assumption | exact KB.refl _ | exact kb0 _) (by rfl) (fun K hK => ?_)
      go_simp
      refine (RefPut_one _ A8 _ _ c8 _ _ n (by rfl) (OwnB.sl hown).1 h13.sl (U64.mk (by have := HN.out.2.2.1; have := HN.out.1; omega)) (by have := HL8.out.2; omega)).mono ?_
      rintro e14 w14 ⟨A14, c14, rfl, hown14, hb14⟩
      obtain ⟨L14, hL14⟩ : ∃ L, L8 ++ enc n = L := ⟨_, rfl⟩
      rw [hL14] at hown14 ⊢
      have HL14 := Lib.hid hL14
      clear hL14
      have hown14 := hown14.lower hB.size
      have hB := hB.trans (hb14.mono hB.size)
      have hkb := KB.of hB
      refine hK.out _ _ hkb ?_; clear hK K
      try simp only [Act.put, List.setIfInBounds_toArray, List.set_cons_zero, List.set_cons_succ]
      refine btake 15 (oi := _) (v := ?_) (by simp only [List.getElem?_toArray, List.getElem?_cons_succ, List.getElem?_cons_zero]; rfl) (by kernel_rfl) (by exact fun _ _ _ h => h) (by first | assumption | exact KB.refl _ | exact kb0 _) (.inl ⟨by rfl, fun W hW => ?_⟩) ?_; rotate_left
      · (go_simp; first | done | with_reducible rfl)
      try simp only [Act.put, List.setIfInBounds_toArray, List.set_cons_zero, List.set_cons_succ]
      refine bdone (by kernel_rfl) ?_
      clear f2 f3 f4 ww4 ww5 ww6 hkb hS0
      have hp := hb.below (b2.trans (hB.mono b2.size))
      have f4 := (hA2.below hB).c 4 rfl
      have hl14 : L14.length = 9 + le := by rw [← HL14.out, List.length_append, HN.out.2.2.2.2.1, HN.out.2.1, HL8.out.2]
      have hnl : n ≤ 70368744177664 := by have := HN.out.2.2.1; have := HN.out.1; omega
      have hpn := HN.out.1
      have HL14' := Lib.hid hl14
      clear hl14
      go_wp2_with (at_builtin; refine app rfl rfl hown14 hp hpn.symm rfl rfl (by have := HL14'.out; omega) hB.size ?_; intro s15 w15 hown15 hg15 hat15; have hB15 := own_below hB hB.size hown14 hg15; obtain ⟨L15, hL15⟩ : ∃ L, L14 ++ p = L := ⟨_, rfl⟩; rw [hL15] at hown15; obtain ⟨A15, c15, rfl, hlc15, _⟩ := hown15.form; have HL15 := Lib.hid hL15; clear hL15 f4)
      have hl15 : L15.length = 9 + le + n := by rw [← HL15.out, List.length_append, HL14'.out, hpn]
      refine (RefSeal_any w15 A15 L15.length c15 L15 (OwnB.sl hown15).1 rfl hlc15 (OwnB.sl hown15).2.2 (by omega)).mono ?_
      rintro e16 w16 ⟨A16, c16, rfl, hown16, hb16⟩
      have hres : sealS L15 = (⟨(kn : Int), g, (fn : Int), (tn : Int), p⟩ : Fr).bytes := by
        rw [HB.out, ← HL15.out, ← HL14.out, ← HL8.out.1, ← HL6.out.1, HN.out.2.2.2.2.1]
      have hs16 := OwnB.sl hown16
      have hb17 := b2.trans ((hB15.trans (hb16.mono hB15.size)).mono b2.size)
      have hlS : (sealS L15).length = 9 + le + n + 4 := by rw [sealS, List.length_append, fixF_len, hl15]
      obtain ⟨S, hS⟩ : ∃ S, sealS L15 = S := ⟨_, rfl⟩
      rw [hS] at hlS hs16 hres ⊢
      have HS := Lib.hid (And.intro hlS (And.intro hs16 (And.intro hres hb17)))
      clear hlS hs16 hres hb17 hl15 hpn
      by_cases hfit : 9 + le + n + 4 ≤ hh
      · have hlS := HS.out.1
        have hq : decide ((hh : Int) < 9 + (le : Int) + (n : Int) + 4) = false := by rw [decide_eq_false_iff_not]; omega
        go_wp2_with fail
        refine (HH.out _).mono ?_
        rintro e17 w17 ⟨rfl, rfl⟩
        go_wp2_with fail
        go_ret2
        have hr := HR.out
        rw [if_pos hfit] at hr
        rw [← hr, ← HS.out.2.2.1]
        exact ⟨A16, c16, by show _ = Ending.returned (.tuple #[.slice A16 S.length c16, .int .i64 0]); rw [hlS]; rfl, HS.out.2.1.1, HS.out.2.1.2.1, HS.out.2.1.2.2, HS.out.2.2.2⟩
      · have hlS := HS.out.1
        have hq : decide ((hh : Int) < 9 + (le : Int) + (n : Int) + 4) = true := by rw [decide_eq_true_eq]; omega
        go_wp2_with fail
        refine (HH.out _).mono ?_
        rintro e17 w17 ⟨rfl, rfl⟩
        go_wp2_with fail
        go_ret2
        have hr := HR.out
        rw [if_neg hfit] at hr
        rw [← hr]
        exact ⟨none, 0, rfl, .inl rfl, by simp, by simp [maxLen], HS.out.2.2.2⟩
  · -- 7: Op.call { callee := Callee.value (Operand.func 46), args := #[Operand.tmp 16, Operand.const (Value.int IntKind.i64 4)], 
    go_simp
    refine (hfix.out _).mono ?_
    rintro e7 w7 ⟨A7, c7, rfl, hF7, hb7⟩
    try have hown := OwnB.below hown hb7
    have hB := hB.trans (hb7.mono hB.size)
    have hkb := KB.of hB
    refine hK.out _ _ hkb ?_; clear hK K
    try simp only [Act.put, List.setIfInBounds_toArray, List.set_cons_zero, List.set_cons_succ]
    -- 3: Op.buildSlice 25 3 #[(0, Operand.const (Value.int IntKind.u8 78)), (1, Operand.const (Value.int IntKind.u8 82)), (2, Ope
    refine bopH 3 (o := _) (by simp only [List.getElem?_toArray, List.getElem?_cons_succ, List.getElem?_cons_zero]; rfl) (by kernel_rfl) (by first | assumption | exact KB.refl _ | exact kb0 _) (by rfl) (fun K hK => ?_)
    go_simp
    have hown := (OwnB.lit _ w2.heap.size [78, 82, UInt8.ofNat kn] hB.size (by simp [maxLen]))
    rw [show (bv [78, 82, UInt8.ofNat kn]).toArray = #[.int .u8 78, .int .u8 82, .int .u8 (kn : Int)] by simp [bv, u8v, Nat.mod_eq_of_lt g1]] at hown
    try simp only [List.length_cons, List.length_nil] at hown
    try have hF7 := hF7.alloc (.cells #[.int .u8 78, .int .u8 82, .int .u8 (kn : Int)] 5)
    have hB := hB.alloc hB.size (.cells #[.int .u8 78, .int .u8 82, .int .u8 (kn : Int)] 5)
    have hkb := KB.of hB
    refine hK.out _ _ hkb ?_; clear hK K
    try simp only [Act.put, List.setIfInBounds_toArray, List.set_cons_zero, List.set_cons_succ]
    -- 8: Op.call { callee := Callee.builtin Builtin.append, args := #[Operand.tmp 13, Operand.tmp 17], argTypes := #[25, 25] }
    refine bopH 8 (o := _) (by simp only [List.getElem?_toArray, List.getElem?_cons_succ, List.getElem?_cons_zero]; rfl) (by kernel_rfl) (by first | assumption | exact KB.refl _ | exact kb0 _) (by rfl) (fun K hK => ?_)
    refine wp_app rfl hown (OwnB.sl hF7).1 (by rfl) rfl rfl (by have := HN.out.2.2.2.2.2; simp; omega) hB.size ?_
    intro s6 w6 hown6 hg6 hat6
    have b6 := own_below hB hB.size hown hg6
    obtain ⟨L6, hL6⟩ : ∃ L, [78, 82, UInt8.ofNat kn] ++ F = L := ⟨_, rfl⟩
    rw [hL6] at hown6
    have hl6 : L6.length = 7 := by rw [← hL6]; simp [HN.out.2.2.2.2.2]
    have HL6 := Lib.hid (And.intro hL6 hl6)
    clear hL6 hl6 hown
    obtain ⟨A6, c6, rfl, _⟩ := hown6.form
    have hkb := KB.of b6
    refine hK.out _ _ hkb ?_; clear hK K
    try simp only [Act.put, List.setIfInBounds_toArray, List.set_cons_zero, List.set_cons_succ]
    refine btake 9 (oi := _) (v := ?_) (by simp only [List.getElem?_toArray, List.getElem?_cons_succ, List.getElem?_cons_zero]; rfl) (by kernel_rfl) (by exact fun _ _ _ h => h) (by first | assumption | exact KB.refl _ | exact kb0 _) (.inl ⟨by rfl, fun W hW => ?_⟩) ?_; rotate_left
    · (go_simp; first | done | with_reducible rfl)
    try simp only [Act.put, List.setIfInBounds_toArray, List.set_cons_zero, List.set_cons_succ]
    refine bdone (by kernel_rfl) ?_
    clear hF7 hg6 hat6 hB f0 f1 ww3 ww7 hkb hS0 hb7
    have f2 := hA2.e 2 rfl
    have f3 := hA2.e 3 rfl
    have f4 := hA2.e 4 rfl
    have ww4 : IntKind.u8.wrap (fn : Int) = (fn : Int) := by rw [IntKind.wrap_u8]; omega
    have ww5 : IntKind.u8.wrap (tn : Int) = (tn : Int) := by rw [IntKind.wrap_u8]; omega
    have ww6 : IntKind.u64.wrap (n : Int) = (n : Int) := by have := HN.out.2.2.1; have := HN.out.1; rw [IntKind.wrap_u64]; omega
    have hB := b6.drew
    have hS0 : KB w2.heap w6.drew := KB.of hB
    have hown : OwnB w6.drew _ _ _ := hown6
    go_wp2_with fail
    refine bstartH (w2.heap) (by kernel_rfl) ?_
    refine btake 0 (oi := _) (v := ?_) (by simp only [List.getElem?_toArray, List.getElem?_cons_zero]; rfl) (by kernel_rfl) (by exact fun _ _ _ h => h) (by first | assumption | exact KB.refl _ | exact kb0 _) (.inl ⟨by rfl, fun W hW => ?_⟩) ?_; rotate_left
    · (go_simp; first | done | with_reducible rfl)
    try simp only [Act.put, List.setIfInBounds_toArray, List.set_cons_zero, List.set_cons_succ]
    refine btake 1 (oi := _) (v := ?_) (by simp only [List.getElem?_toArray, List.getElem?_cons_succ, List.getElem?_cons_zero]; rfl) (by kernel_rfl) (by exact fun _ _ _ h => h) (by first | assumption | exact KB.refl _ | exact kb0 _) (.inl ⟨by rfl, fun W hW => ?_⟩) ?_; rotate_left
    · (go_simp; first | done | with_reducible rfl)
    try simp only [Act.put, List.setIfInBounds_toArray, List.set_cons_zero, List.set_cons_succ]
    refine btake 2 (oi := _) (v := ?_) (by simp only [List.getElem?_toArray, List.getElem?_cons_succ, List.getElem?_cons_zero]; rfl) (by kernel_rfl) (by exact fun _ _ _ h => h) (by first | assumption | exact KB.refl _ | exact kb0 _) (.inl ⟨by rfl, fun W hW => ?_⟩) ?_; rotate_left
    · (go_simp; first | done | with_reducible rfl)
    try simp only [Act.put, List.setIfInBounds_toArray, List.set_cons_zero, List.set_cons_succ]
    refine btake 3 (oi := _) (v := ?_) (by simp only [List.getElem?_toArray, List.getElem?_cons_succ, List.getElem?_cons_zero]; rfl) (by kernel_rfl) (by exact fun _ _ _ h => h) (by first | assumption | exact KB.refl _ | exact kb0 _) (.inl ⟨by rfl, fun W hW => ?_⟩) ?_; rotate_left
    · (go_simp; first | done | with_reducible rfl)
    try simp only [Act.put, List.setIfInBounds_toArray, List.set_cons_zero, List.set_cons_succ]
    refine btake 4 (oi := _) (v := ?_) (by simp only [List.getElem?_toArray, List.getElem?_cons_succ, List.getElem?_cons_zero]; rfl) (by kernel_rfl) (by exact fun _ _ _ h => h) (by first | assumption | exact KB.refl _ | exact kb0 _) (.inl ⟨by rfl, fun W hW => ?_⟩) ?_; rotate_left
    · (go_simp; first | done | with_reducible rfl)
    try simp only [Act.put, List.setIfInBounds_toArray, List.set_cons_zero, List.set_cons_succ]
    refine btake 5 (oi := _) (v := ?_) (by simp only [List.getElem?_toArray, List.getElem?_cons_succ, List.getElem?_cons_zero]; rfl) (by kernel_rfl) (by exact fun _ _ _ h => h) (by first | assumption | exact KB.refl _ | exact kb0 _) (.inl ⟨by rfl, fun W hW => ?_⟩) ?_; rotate_left
    · (go_simp; first | done | with_reducible rfl)
    try simp only [Act.put, List.setIfInBounds_toArray, List.set_cons_zero, List.set_cons_succ]
    refine btake 6 (oi := _) (v := ?_) (by simp only [List.getElem?_toArray, List.getElem?_cons_succ, List.getElem?_cons_zero]; rfl) (by kernel_rfl) (by exact fun _ _ _ h => h) (by first | assumption | exact KB.refl _ | exact kb0 _) (.inl ⟨by rfl, fun W hW => ?_⟩) ?_; rotate_left
    · (go_simp; first | done | with_reducible rfl)
    try simp only [Act.put, List.setIfInBounds_toArray, List.set_cons_zero, List.set_cons_succ]
    refine btake 9 (oi := _) (v := ?_) (by simp only [List.getElem?_toArray, List.getElem?_cons_succ, List.getElem?_cons_zero]; rfl) (by kernel_rfl) (by exact fun _ _ _ h => h) (by first | assumption | exact KB.refl _ | exact kb0 _) (.inl ⟨by rfl, fun W hW => ?_⟩) ?_; rotate_left
    · (go_simp; first | done | with_reducible rfl)
    try simp only [Act.put, List.setIfInBounds_toArray, List.set_cons_zero, List.set_cons_succ]
    refine btake 10 (oi := _) (v := ?_) (by simp only [List.getElem?_toArray, List.getElem?_cons_succ, List.getElem?_cons_zero]; rfl) (by kernel_rfl) (by exact fun _ _ _ h => h) (by first | assumption | exact KB.refl _ | exact kb0 _) (.inl ⟨by rfl, fun W hW => ?_⟩) ?_; rotate_left
    · (go_simp; first | done | with_reducible rfl)
    try simp only [Act.put, List.setIfInBounds_toArray, List.set_cons_zero, List.set_cons_succ]
    refine btake 11 (oi := _) (v := ?_) (by simp only [List.getElem?_toArray, List.getElem?_cons_succ, List.getElem?_cons_zero]; rfl) (by kernel_rfl) (by exact fun _ _ _ h => h) (by first | assumption | exact KB.refl _ | exact kb0 _) (.inl ⟨by rfl, fun W hW => ?_⟩) ?_; rotate_left
    · (go_simp; first | done | with_reducible rfl)
    try simp only [Act.put, List.setIfInBounds_toArray, List.set_cons_zero, List.set_cons_succ]
    refine btake 12 (oi := _) (v := ?_) (by simp only [List.getElem?_toArray, List.getElem?_cons_succ, List.getElem?_cons_zero]; rfl) (by kernel_rfl) (by exact fun _ _ _ h => h) (by first | assumption | exact KB.refl _ | exact kb0 _) (.inl ⟨by rfl, fun W hW => ?_⟩) ?_; rotate_left
    · (go_simp; first | done | with_reducible rfl)
    try simp only [Act.put, List.setIfInBounds_toArray, List.set_cons_zero, List.set_cons_succ]
    refine bopH2 7 13 (oi := _) (oj := _) (by simp only [List.getElem?_toArray, List.getElem?_cons_succ, List.getElem?_cons_zero]; rfl) (by simp only [List.getElem?_toArray, List.getElem?_cons_succ, List.getElem?_cons_zero]; rfl) (by kernel_rfl) (by first | assumption | exact KB.refl _ | exact kb0 _) (by rfl) (by rfl) (fun K hK => ?_) (fun K hK => ?_)
    · -- 7: Op.buildSlice 25 2 #[(0, Operand.tmp 22), (1, Operand.tmp 25)]
      go_simp
      have h7 := At.newB hB 5 #[.int .u8 (fn : Int), .int .u8 (tn : Int)]
      try simp only at h7
      try have h13 := h13.alloc (.cells #[.int .u8 (fn : Int), .int .u8 (tn : Int)] 5)
      have hown := hown.alloc (.cells #[.int .u8 (fn : Int), .int .u8 (tn : Int)] 5)
      have hB := hB.alloc hB.size (.cells #[.int .u8 (fn : Int), .int .u8 (tn : Int)] 5)
      have hkb := KB.of hB
      refine hK.out _ _ hkb ?_; clear hK K
      try simp only [Act.put, List.setIfInBounds_toArray, List.set_cons_zero, List.set_cons_succ]
      refine bopH2 8 13 (oi := _) (oj := _) (by simp only [List.getElem?_toArray, List.getElem?_cons_succ, List.getElem?_cons_zero]; rfl) (by simp only [List.getElem?_toArray, List.getElem?_cons_succ, List.getElem?_cons_zero]; rfl) (by kernel_rfl) (by first | assumption | exact KB.refl _ | exact kb0 _) (by rfl) (by rfl) (fun K hK => ?_) (fun K hK => ?_)
      · -- 8: Op.call { callee := Callee.builtin Builtin.append, args := #[Operand.tmp 19, Operand.tmp 26], argTypes := #[25, 25] }
        refine wp_app rfl hown (h7.slb (two_bv fn tn g2 g3)) rfl rfl rfl (by have := HL6.out.2; simp; omega) hB.size ?_
        intro s8 w8 hown8 hg8 hat8
        try have h13 := h13.grown hg8 hne
        have hB := own_below hB hB.size hown hg8
        obtain ⟨L8, hL8⟩ : ∃ L, L6 ++ [UInt8.ofNat fn, UInt8.ofNat tn] = L := ⟨_, rfl⟩
        rw [hL8] at hown8
        have hl8 : L8.length = 9 := by rw [← hL8]; simp [HL6.out.2]
        have HL8 := Lib.hid (And.intro hL8 hl8)
        clear hL8 hl8
        obtain ⟨A8, c8, rfl, hlc8, _⟩ := hown8.form
        clear hown
        have hown := hown8
        have hkb := KB.of hB
        refine hK.out _ _ hkb ?_; clear hK K
        try simp only [Act.put, List.setIfInBounds_toArray, List.set_cons_zero, List.set_cons_succ]
        -- 13: Op.buildSlice 66 1 #[(0, Operand.tmp 31)]
        refine bopH 13 (o := _) (by simp only [List.getElem?_toArray, List.getElem?_cons_succ, List.getElem?_cons_zero]; rfl) (by kernel_rfl) (by first | assumption | exact KB.refl _ | exact kb0 _) (by rfl) (fun K hK => ?_)
        go_simp
        have hne := own_ne hown
        try simp only [World.size_alloc] at hne
        have h13 := At.newB hB 33 #[.int .u64 (n : Int)]
        try simp only at h13
        try have h7 := h7.alloc (.cells #[.int .u64 (n : Int)] 33)
        have hown := hown.alloc (.cells #[.int .u64 (n : Int)] 33)
        have hB := hB.alloc hB.size (.cells #[.int .u64 (n : Int)] 33)
        have hkb := KB.of hB
        refine hK.out _ _ hkb ?_; clear hK K
        try simp only [Act.put, List.setIfInBounds_toArray, List.set_cons_zero, List.set_cons_succ]
        -- 14: Op.call { callee := Callee.value (Operand.func 20), args := #[Operand.tmp 27, Operand.tmp 32], argTypes := #[25, 66] }
        refine bopH 14 (o := _) (by simp only [List.getElem?_toArray, List.getElem?_cons_succ, List.getElem?_cons_zero]; rfl) (by kernel_rfl) (by first | assumption | exact KB.refl _ | exact kb0 _) (by rfl) (fun K hK => ?_)
        go_simp
        refine (RefPut_one _ A8 _ _ c8 _ _ n (by rfl) (OwnB.sl hown).1 h13.sl (U64.mk (by have := HN.out.2.2.1; have := HN.out.1; omega)) (by have := HL8.out.2; omega)).mono ?_
        rintro e14 w14 ⟨A14, c14, rfl, hown14, hb14⟩
        obtain ⟨L14, hL14⟩ : ∃ L, L8 ++ enc n = L := ⟨_, rfl⟩
        rw [hL14] at hown14 ⊢
        have HL14 := Lib.hid hL14
        clear hL14
        have hown14 := hown14.lower hB.size
        have hB := hB.trans (hb14.mono hB.size)
        have hkb := KB.of hB
        refine hK.out _ _ hkb ?_; clear hK K
        try simp only [Act.put, List.setIfInBounds_toArray, List.set_cons_zero, List.set_cons_succ]
        refine btake 15 (oi := _) (v := ?_) (by simp only [List.getElem?_toArray, List.getElem?_cons_succ, List.getElem?_cons_zero]; rfl) (by kernel_rfl) (by exact fun _ _ _ h => h) (by first | assumption | exact KB.refl _ | exact kb0 _) (.inl ⟨by rfl, fun W hW => ?_⟩) ?_; rotate_left
        · (go_simp; first | done | with_reducible rfl)
        try simp only [Act.put, List.setIfInBounds_toArray, List.set_cons_zero, List.set_cons_succ]
        refine bdone (by kernel_rfl) ?_
        clear f2 f3 f4 ww4 ww5 ww6 hkb hS0
        have hp := hb.below (b2.trans (hB.mono b2.size))
        have f4 := (hA2.below hB).c 4 rfl
        have hl14 : L14.length = 9 + le := by rw [← HL14.out, List.length_append, HN.out.2.2.2.2.1, HN.out.2.1, HL8.out.2]
        have hnl : n ≤ 70368744177664 := by have := HN.out.2.2.1; have := HN.out.1; omega
        have hpn := HN.out.1
        have HL14' := Lib.hid hl14
        clear hl14
        go_wp2_with (at_builtin; refine app rfl rfl hown14 hp hpn.symm rfl rfl (by have := HL14'.out; omega) hB.size ?_; intro s15 w15 hown15 hg15 hat15; have hB15 := own_below hB hB.size hown14 hg15; obtain ⟨L15, hL15⟩ : ∃ L, L14 ++ p = L := ⟨_, rfl⟩; rw [hL15] at hown15; obtain ⟨A15, c15, rfl, hlc15, _⟩ := hown15.form; have HL15 := Lib.hid hL15; clear hL15 f4)
        have hl15 : L15.length = 9 + le + n := by rw [← HL15.out, List.length_append, HL14'.out, hpn]
        refine (RefSeal_any w15 A15 L15.length c15 L15 (OwnB.sl hown15).1 rfl hlc15 (OwnB.sl hown15).2.2 (by omega)).mono ?_
        rintro e16 w16 ⟨A16, c16, rfl, hown16, hb16⟩
        have hres : sealS L15 = (⟨(kn : Int), g, (fn : Int), (tn : Int), p⟩ : Fr).bytes := by
          rw [HB.out, ← HL15.out, ← HL14.out, ← HL8.out.1, ← HL6.out.1, HN.out.2.2.2.2.1]
        have hs16 := OwnB.sl hown16
        have hb17 := b2.trans ((hB15.trans (hb16.mono hB15.size)).mono b2.size)
        have hlS : (sealS L15).length = 9 + le + n + 4 := by rw [sealS, List.length_append, fixF_len, hl15]
        obtain ⟨S, hS⟩ : ∃ S, sealS L15 = S := ⟨_, rfl⟩
        rw [hS] at hlS hs16 hres ⊢
        have HS := Lib.hid (And.intro hlS (And.intro hs16 (And.intro hres hb17)))
        clear hlS hs16 hres hb17 hl15 hpn
        by_cases hfit : 9 + le + n + 4 ≤ hh
        · have hlS := HS.out.1
          have hq : decide ((hh : Int) < 9 + (le : Int) + (n : Int) + 4) = false := by rw [decide_eq_false_iff_not]; omega
          go_wp2_with fail
          refine (HH.out _).mono ?_
          rintro e17 w17 ⟨rfl, rfl⟩
          go_wp2_with fail
          go_ret2
          have hr := HR.out
          rw [if_pos hfit] at hr
          rw [← hr, ← HS.out.2.2.1]
          exact ⟨A16, c16, by show _ = Ending.returned (.tuple #[.slice A16 S.length c16, .int .i64 0]); rw [hlS]; rfl, HS.out.2.1.1, HS.out.2.1.2.1, HS.out.2.1.2.2, HS.out.2.2.2⟩
        · have hlS := HS.out.1
          have hq : decide ((hh : Int) < 9 + (le : Int) + (n : Int) + 4) = true := by rw [decide_eq_true_eq]; omega
          go_wp2_with fail
          refine (HH.out _).mono ?_
          rintro e17 w17 ⟨rfl, rfl⟩
          go_wp2_with fail
          go_ret2
          have hr := HR.out
          rw [if_neg hfit] at hr
          rw [← hr]
          exact ⟨none, 0, rfl, .inl rfl, by simp, by simp [maxLen], HS.out.2.2.2⟩
      · -- 13: Op.buildSlice 66 1 #[(0, Operand.tmp 31)]
        go_simp
        have hne := own_ne hown
        try simp only [World.size_alloc] at hne
        have h13 := At.newB hB 33 #[.int .u64 (n : Int)]
        try simp only [World.size_alloc] at h13
        try have h7 := h7.alloc (.cells #[.int .u64 (n : Int)] 33)
        have hown := hown.alloc (.cells #[.int .u64 (n : Int)] 33)
        have hB := hB.alloc hB.size (.cells #[.int .u64 (n : Int)] 33)
        have hkb := KB.of hB
        refine hK.out _ _ hkb ?_; clear hK K
        try simp only [Act.put, List.setIfInBounds_toArray, List.set_cons_zero, List.set_cons_succ]
        -- 8: Op.call { callee := Callee.builtin Builtin.append, args := #[Operand.tmp 19, Operand.tmp 26], argTypes := #[25, 25] }
        refine bopH 8 (o := _) (by simp only [List.getElem?_toArray, List.getElem?_cons_succ, List.getElem?_cons_zero]; rfl) (by kernel_rfl) (by first | assumption | exact KB.refl _ | exact kb0 _) (by rfl) (fun K hK => ?_)
        refine wp_app rfl hown (h7.slb (two_bv fn tn g2 g3)) rfl rfl rfl (by have := HL6.out.2; simp; omega) hB.size ?_
        intro s8 w8 hown8 hg8 hat8
        try have h13 := h13.grown hg8 hne
        have hB := own_below hB hB.size hown hg8
        obtain ⟨L8, hL8⟩ : ∃ L, L6 ++ [UInt8.ofNat fn, UInt8.ofNat tn] = L := ⟨_, rfl⟩
        rw [hL8] at hown8
        have hl8 : L8.length = 9 := by rw [← hL8]; simp [HL6.out.2]
        have HL8 := Lib.hid (And.intro hL8 hl8)
        clear hL8 hl8
        obtain ⟨A8, c8, rfl, hlc8, _⟩ := hown8.form
        clear hown
        have hown := hown8
        have hkb := KB.of hB
        refine hK.out _ _ hkb ?_; clear hK K
        try simp only [Act.put, List.setIfInBounds_toArray, List.set_cons_zero, List.set_cons_succ]
        -- 14: Op.call { callee := Callee.value (Operand.func 20), args := #[Operand.tmp 27, Operand.tmp 32], argTypes := #[25, 66] }
        refine bopH 14 (o := _) (by simp only [List.getElem?_toArray, List.getElem?_cons_succ, List.getElem?_cons_zero]; rfl) (by kernel_rfl) (by first | assumption | exact KB.refl _ | exact kb0 _) (by rfl) (fun K hK => ?_)
        go_simp
        refine (RefPut_one _ A8 _ _ c8 _ _ n (by rfl) (OwnB.sl hown).1 h13.sl (U64.mk (by have := HN.out.2.2.1; have := HN.out.1; omega)) (by have := HL8.out.2; omega)).mono ?_
        rintro e14 w14 ⟨A14, c14, rfl, hown14, hb14⟩
        obtain ⟨L14, hL14⟩ : ∃ L, L8 ++ enc n = L := ⟨_, rfl⟩
        rw [hL14] at hown14 ⊢
        have HL14 := Lib.hid hL14
        clear hL14
        have hown14 := hown14.lower hB.size
        have hB := hB.trans (hb14.mono hB.size)
        have hkb := KB.of hB
        refine hK.out _ _ hkb ?_; clear hK K
        try simp only [Act.put, List.setIfInBounds_toArray, List.set_cons_zero, List.set_cons_succ]
        refine btake 15 (oi := _) (v := ?_) (by simp only [List.getElem?_toArray, List.getElem?_cons_succ, List.getElem?_cons_zero]; rfl) (by kernel_rfl) (by exact fun _ _ _ h => h) (by first | assumption | exact KB.refl _ | exact kb0 _) (.inl ⟨by rfl, fun W hW => ?_⟩) ?_; rotate_left
        · (go_simp; first | done | with_reducible rfl)
        try simp only [Act.put, List.setIfInBounds_toArray, List.set_cons_zero, List.set_cons_succ]
        refine bdone (by kernel_rfl) ?_
        clear f2 f3 f4 ww4 ww5 ww6 hkb hS0
        have hp := hb.below (b2.trans (hB.mono b2.size))
        have f4 := (hA2.below hB).c 4 rfl
        have hl14 : L14.length = 9 + le := by rw [← HL14.out, List.length_append, HN.out.2.2.2.2.1, HN.out.2.1, HL8.out.2]
        have hnl : n ≤ 70368744177664 := by have := HN.out.2.2.1; have := HN.out.1; omega
        have hpn := HN.out.1
        have HL14' := Lib.hid hl14
        clear hl14
        go_wp2_with (at_builtin; refine app rfl rfl hown14 hp hpn.symm rfl rfl (by have := HL14'.out; omega) hB.size ?_; intro s15 w15 hown15 hg15 hat15; have hB15 := own_below hB hB.size hown14 hg15; obtain ⟨L15, hL15⟩ : ∃ L, L14 ++ p = L := ⟨_, rfl⟩; rw [hL15] at hown15; obtain ⟨A15, c15, rfl, hlc15, _⟩ := hown15.form; have HL15 := Lib.hid hL15; clear hL15 f4)
        have hl15 : L15.length = 9 + le + n := by rw [← HL15.out, List.length_append, HL14'.out, hpn]
        refine (RefSeal_any w15 A15 L15.length c15 L15 (OwnB.sl hown15).1 rfl hlc15 (OwnB.sl hown15).2.2 (by omega)).mono ?_
        rintro e16 w16 ⟨A16, c16, rfl, hown16, hb16⟩
        have hres : sealS L15 = (⟨(kn : Int), g, (fn : Int), (tn : Int), p⟩ : Fr).bytes := by
          rw [HB.out, ← HL15.out, ← HL14.out, ← HL8.out.1, ← HL6.out.1, HN.out.2.2.2.2.1]
        have hs16 := OwnB.sl hown16
        have hb17 := b2.trans ((hB15.trans (hb16.mono hB15.size)).mono b2.size)
        have hlS : (sealS L15).length = 9 + le + n + 4 := by rw [sealS, List.length_append, fixF_len, hl15]
        obtain ⟨S, hS⟩ : ∃ S, sealS L15 = S := ⟨_, rfl⟩
        rw [hS] at hlS hs16 hres ⊢
        have HS := Lib.hid (And.intro hlS (And.intro hs16 (And.intro hres hb17)))
        clear hlS hs16 hres hb17 hl15 hpn
        by_cases hfit : 9 + le + n + 4 ≤ hh
        · have hlS := HS.out.1
          have hq : decide ((hh : Int) < 9 + (le : Int) + (n : Int) + 4) = false := by rw [decide_eq_false_iff_not]; omega
          go_wp2_with fail
          refine (HH.out _).mono ?_
          rintro e17 w17 ⟨rfl, rfl⟩
          go_wp2_with fail
          go_ret2
          have hr := HR.out
          rw [if_pos hfit] at hr
          rw [← hr, ← HS.out.2.2.1]
          exact ⟨A16, c16, by show _ = Ending.returned (.tuple #[.slice A16 S.length c16, .int .i64 0]); rw [hlS]; rfl, HS.out.2.1.1, HS.out.2.1.2.1, HS.out.2.1.2.2, HS.out.2.2.2⟩
        · have hlS := HS.out.1
          have hq : decide ((hh : Int) < 9 + (le : Int) + (n : Int) + 4) = true := by rw [decide_eq_true_eq]; omega
          go_wp2_with fail
          refine (HH.out _).mono ?_
          rintro e17 w17 ⟨rfl, rfl⟩
          go_wp2_with fail
          go_ret2
          have hr := HR.out
          rw [if_neg hfit] at hr
          rw [← hr]
          exact ⟨none, 0, rfl, .inl rfl, by simp, by simp [maxLen], HS.out.2.2.2⟩
    · -- 13: Op.buildSlice 66 1 #[(0, Operand.tmp 31)]
      go_simp
      have hne := own_ne hown
      try simp only [World.size_alloc] at hne
      have h13 := At.newB hB 33 #[.int .u64 (n : Int)]
      try simp only at h13
      try have h7 := h7.alloc (.cells #[.int .u64 (n : Int)] 33)
      have hown := hown.alloc (.cells #[.int .u64 (n : Int)] 33)
      have hB := hB.alloc hB.size (.cells #[.int .u64 (n : Int)] 33)
      have hkb := KB.of hB
      refine hK.out _ _ hkb ?_; clear hK K
      try simp only [Act.put, List.setIfInBounds_toArray, List.set_cons_zero, List.set_cons_succ]
      -- 7: Op.buildSlice 25 2 #[(0, Operand.tmp 22), (1, Operand.tmp 25)]
      refine bopH 7 (o := _) (by simp only [List.getElem?_toArray, List.getElem?_cons_succ, List.getElem?_cons_zero]; rfl) (by kernel_rfl) (by first | assumption | exact KB.refl _ | exact kb0 _) (by rfl) (fun K hK => ?_)
      go_simp
      have h7 := At.newB hB 5 #[.int .u8 (fn : Int), .int .u8 (tn : Int)]
      try simp only [World.size_alloc] at h7
      try have h13 := h13.alloc (.cells #[.int .u8 (fn : Int), .int .u8 (tn : Int)] 5)
      have hown := hown.alloc (.cells #[.int .u8 (fn : Int), .int .u8 (tn : Int)] 5)
      have hB := hB.alloc hB.size (.cells #[.int .u8 (fn : Int), .int .u8 (tn : Int)] 5)
      have hkb := KB.of hB
      refine hK.out _ _ hkb ?_; clear hK K
      try simp only [Act.put, List.setIfInBounds_toArray, List.set_cons_zero, List.set_cons_succ]
      -- 8: Op.call { callee := Callee.builtin Builtin.append, args := #[Operand.tmp 19, Operand.tmp 26], argTypes := #[25, 25] }
      refine bopH 8 (o := _) (by simp only [List.getElem?_toArray, List.getElem?_cons_succ, List.getElem?_cons_zero]; rfl) (by kernel_rfl) (by first | assumption | exact KB.refl _ | exact kb0 _) (by rfl) (fun K hK => ?_)
      refine wp_app rfl hown (h7.slb (two_bv fn tn g2 g3)) rfl rfl rfl (by have := HL6.out.2; simp; omega) hB.size ?_
      intro s8 w8 hown8 hg8 hat8
      try have h13 := h13.grown hg8 hne
      have hB := own_below hB hB.size hown hg8
      obtain ⟨L8, hL8⟩ : ∃ L, L6 ++ [UInt8.ofNat fn, UInt8.ofNat tn] = L := ⟨_, rfl⟩
      rw [hL8] at hown8
      have hl8 : L8.length = 9 := by rw [← hL8]; simp [HL6.out.2]
      have HL8 := Lib.hid (And.intro hL8 hl8)
      clear hL8 hl8
      obtain ⟨A8, c8, rfl, hlc8, _⟩ := hown8.form
      clear hown
      have hown := hown8
      have hkb := KB.of hB
      refine hK.out _ _ hkb ?_; clear hK K
      try simp only [Act.put, List.setIfInBounds_toArray, List.set_cons_zero, List.set_cons_succ]
      -- 14: Op.call { callee := Callee.value (Operand.func 20), args := #[Operand.tmp 27, Operand.tmp 32], argTypes := #[25, 66] }
      refine bopH 14 (o := _) (by simp only [List.getElem?_toArray, List.getElem?_cons_succ, List.getElem?_cons_zero]; rfl) (by kernel_rfl) (by first | assumption | exact KB.refl _ | exact kb0 _) (by rfl) (fun K hK => ?_)
      go_simp
      refine (RefPut_one _ A8 _ _ c8 _ _ n (by rfl) (OwnB.sl hown).1 h13.sl (U64.mk (by have := HN.out.2.2.1; have := HN.out.1; omega)) (by have := HL8.out.2; omega)).mono ?_
      rintro e14 w14 ⟨A14, c14, rfl, hown14, hb14⟩
      obtain ⟨L14, hL14⟩ : ∃ L, L8 ++ enc n = L := ⟨_, rfl⟩
      rw [hL14] at hown14 ⊢
      have HL14 := Lib.hid hL14
      clear hL14
      have hown14 := hown14.lower hB.size
      have hB := hB.trans (hb14.mono hB.size)
      have hkb := KB.of hB
      refine hK.out _ _ hkb ?_; clear hK K
      try simp only [Act.put, List.setIfInBounds_toArray, List.set_cons_zero, List.set_cons_succ]
      refine btake 15 (oi := _) (v := ?_) (by simp only [List.getElem?_toArray, List.getElem?_cons_succ, List.getElem?_cons_zero]; rfl) (by kernel_rfl) (by exact fun _ _ _ h => h) (by first | assumption | exact KB.refl _ | exact kb0 _) (.inl ⟨by rfl, fun W hW => ?_⟩) ?_; rotate_left
      · (go_simp; first | done | with_reducible rfl)
      try simp only [Act.put, List.setIfInBounds_toArray, List.set_cons_zero, List.set_cons_succ]
      refine bdone (by kernel_rfl) ?_
      clear f2 f3 f4 ww4 ww5 ww6 hkb hS0
      have hp := hb.below (b2.trans (hB.mono b2.size))
      have f4 := (hA2.below hB).c 4 rfl
      have hl14 : L14.length = 9 + le := by rw [← HL14.out, List.length_append, HN.out.2.2.2.2.1, HN.out.2.1, HL8.out.2]
      have hnl : n ≤ 70368744177664 := by have := HN.out.2.2.1; have := HN.out.1; omega
      have hpn := HN.out.1
      have HL14' := Lib.hid hl14
      clear hl14
      go_wp2_with (at_builtin; refine app rfl rfl hown14 hp hpn.symm rfl rfl (by have := HL14'.out; omega) hB.size ?_; intro s15 w15 hown15 hg15 hat15; have hB15 := own_below hB hB.size hown14 hg15; obtain ⟨L15, hL15⟩ : ∃ L, L14 ++ p = L := ⟨_, rfl⟩; rw [hL15] at hown15; obtain ⟨A15, c15, rfl, hlc15, _⟩ := hown15.form; have HL15 := Lib.hid hL15; clear hL15 f4)
      have hl15 : L15.length = 9 + le + n := by rw [← HL15.out, List.length_append, HL14'.out, hpn]
      refine (RefSeal_any w15 A15 L15.length c15 L15 (OwnB.sl hown15).1 rfl hlc15 (OwnB.sl hown15).2.2 (by omega)).mono ?_
      rintro e16 w16 ⟨A16, c16, rfl, hown16, hb16⟩
      have hres : sealS L15 = (⟨(kn : Int), g, (fn : Int), (tn : Int), p⟩ : Fr).bytes := by
        rw [HB.out, ← HL15.out, ← HL14.out, ← HL8.out.1, ← HL6.out.1, HN.out.2.2.2.2.1]
      have hs16 := OwnB.sl hown16
      have hb17 := b2.trans ((hB15.trans (hb16.mono hB15.size)).mono b2.size)
      have hlS : (sealS L15).length = 9 + le + n + 4 := by rw [sealS, List.length_append, fixF_len, hl15]
      obtain ⟨S, hS⟩ : ∃ S, sealS L15 = S := ⟨_, rfl⟩
      rw [hS] at hlS hs16 hres ⊢
      have HS := Lib.hid (And.intro hlS (And.intro hs16 (And.intro hres hb17)))
      clear hlS hs16 hres hb17 hl15 hpn
      by_cases hfit : 9 + le + n + 4 ≤ hh
      · have hlS := HS.out.1
        have hq : decide ((hh : Int) < 9 + (le : Int) + (n : Int) + 4) = false := by rw [decide_eq_false_iff_not]; omega
        go_wp2_with fail
        refine (HH.out _).mono ?_
        rintro e17 w17 ⟨rfl, rfl⟩
        go_wp2_with fail
        go_ret2
        have hr := HR.out
        rw [if_pos hfit] at hr
        rw [← hr, ← HS.out.2.2.1]
        exact ⟨A16, c16, by show _ = Ending.returned (.tuple #[.slice A16 S.length c16, .int .i64 0]); rw [hlS]; rfl, HS.out.2.1.1, HS.out.2.1.2.1, HS.out.2.1.2.2, HS.out.2.2.2⟩
      · have hlS := HS.out.1
        have hq : decide ((hh : Int) < 9 + (le : Int) + (n : Int) + 4) = true := by rw [decide_eq_true_eq]; omega
        go_wp2_with fail
        refine (HH.out _).mono ?_
        rintro e17 w17 ⟨rfl, rfl⟩
        go_wp2_with fail
        go_ret2
        have hr := HR.out
        rw [if_neg hfit] at hr
        rw [← hr]
        exact ⟨none, 0, rfl, .inl rfl, by simp, by simp [maxLen], HS.out.2.2.2⟩
theorem RPut_any (w : World) (x : Fr) (A : Option Addr) (c : Nat) (limit : Int) (hb : Sl w w.heap.size A (bv x.p)) (hc : x.p.length ≤ c) (hm : c ≤ maxLen) (hl : x.p.length ≤ 70368744177664) (hg : x.g < 4294967296) :
    Calls Try.prog 28 #[x.v A c, .int .i64 limit] w (PutPost w (putF x limit)) := by
  unfold putF
  by_cases h : x.right = true
  · rw [if_pos h]; exact RPut_yes w x A c limit h hb hc hm hl hg
  · rw [if_neg h]; exact RPut_no w x A c limit (by simpa using h)
end Go.Proofs.Ytkgmbpbbgkjidaa

