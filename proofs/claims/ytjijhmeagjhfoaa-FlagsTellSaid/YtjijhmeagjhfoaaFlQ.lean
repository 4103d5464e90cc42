/- Flags: the document's Put. -/
import Derived.Test.YtjijhmeagjhfoaaFlD
import Derived.Test.YtjijhmeagjhfoaaFlP
import Derived.Test.YtjijhmeagjhfoaaRegE
import Derived.Test.YtjijhmeagjhfoaaFlS
namespace Go.Proofs.Ytjijhmeagjhfoaa
open Go.RowKit
set_option maxRecDepth 20000

theorem flag_fill (parts : List (Nat × Value)) : Try.prog.built 72 parts = Instr.fill (#[(0, 32), (32, 3), (35, 1)][·]?) (bv z32 ++ ([.int .i64 0, .int .i64 0, .int .i64 0, .bool false] : List Value)).toArray parts := by
  kernel_rfl
theorem flag_built (x : ID) (p l r : Int) (on : Bool) : Try.prog.built 72 [(0, .agg (bv x.l).toArray), (1, .agg #[.int .i64 p, .int .i64 l, .int .i64 r]), (2, .bool on)] = some (FE.cells (x, ⟨⟨p, l, r⟩, on⟩)).toArray := by
  rw [flag_fill]
  have hx : (bv x.l).length = 32 := by rw [bv_len, x.h]
  have h0 := fill_part (#[(0, 32), (32, 3), (35, 1)][·]?) 0 (.agg (bv x.l).toArray) (bv x.l) [] (bv z32) [.int .i64 0, .int .i64 0, .int .i64 0, .bool false] [(1, .agg #[.int .i64 p, .int .i64 l, .int .i64 r]), (2, .bool on)] (by rw [hx]; rfl) rfl (by rw [hx]; rfl)
  rw [List.nil_append] at h0
  rw [h0]
  have h1 := fill_part (#[(0, 32), (32, 3), (35, 1)][·]?) 1 (.agg #[.int .i64 p, .int .i64 l, .int .i64 r]) [.int .i64 p, .int .i64 l, .int .i64 r] (bv x.l) [.int .i64 0, .int .i64 0, .int .i64 0] [.bool false] [(2, .bool on)] (by rw [hx]; rfl) rfl rfl
  simp only [List.nil_append, List.append_assoc, List.cons_append] at h1 ⊢
  rw [h1]
  have h2 := fill_part (#[(0, 32), (32, 3), (35, 1)][·]?) 2 (.bool on) [.bool on] (bv x.l ++ [.int .i64 p, .int .i64 l, .int .i64 r]) [.bool false] [] [] (by rw [List.length_append, hx]; rfl) rfl rfl
  simp only [List.append_nil, List.append_assoc, List.cons_append, List.nil_append] at h2
  rw [h2]
  rfl
def DPutPost (w : World) (d : Nat) (F : Nat → Prop) (R : List FE) (x : ID) (k : FM) (e : Ending) (w' : World) : Prop :=
  e = .returned (.tuple #[.bool (k.s.right && told (look R x) k), .int .i64 (if k.s.right then 0 else 21)]) ∧ ∃ F' : Nat → Prop, DS w' d F' (putIf R x k) ∧ (∀ i, F' i → F i ∨ w.heap.size ≤ i) ∧ Grew F w w'
theorem DS.facts {w : World} {d : Nat} {F : Nat → Prop} {R : List FE} (h : DS w d F R) : Rise R ∧ AllR R := by
  obtain ⟨_, _, _, _, _, _, _, h, _⟩ := h
  exact h
theorem putIf_facts {R : List FE} (hR : Rise R) (hA : AllR R) (x : ID) (m : FM) : Rise (putIf R x m) ∧ AllR (putIf R x m) := by
  unfold putIf
  split
  · rename_i h
    exact ⟨rise_put hR x m, all_put hR hA x h⟩
  · exact ⟨hR, hA⟩
theorem dput_new {w w4 w6 : World} {d n6 c6 B : Nat} {F : Nat → Prop} {R L' : List FE} {x : ID} {m : FM} {A6 : Option Addr} {old : Value} (hF : DS w d F R) (hb4 : Below w.heap.size w w4) (hb6 : Below w4.heap.size w4 w6)
    (hown : EF.Own w6 B (.slice A6 n6 c6) L') (hB : w.heap.size ≤ B) (hAt : At w6 d [old]) (hL : L' = putIf R x m) (hn6 : n6 = L'.length) (hne : 0 < L'.length) :
    ∃ F' : Nat → Prop, DS (w6.setCell ⟨d, 0, none⟩ (.slice A6 n6 c6)) d F' (putIf R x m) ∧ (∀ i, F' i → F i ∨ w.heap.size ≤ i) ∧ Grew F w (w6.setCell ⟨d, 0, none⟩ (.slice A6 n6 c6)) := by
  subst hn6
  obtain ⟨_, _, h1, _, _, _, hFd, hfacts, _⟩ := hF
  have hbw := hb4.trans (hb6.mono hb4.size)
  obtain ⟨g, cap, e, hg, hgl, hle, hcm⟩ := hown.head hne
  injection e with eA en ec
  subst eA ec
  have hrow := hown.row
  have hdlt := h1.1
  have hgd : g ≠ d := by omega
  refine ⟨fun i => i = d ∨ i = g, ⟨some ⟨g, 0, none⟩, c6, ?_, .inr ⟨g, rfl, .inr rfl, hgd, ?_⟩, ?_, hcm, .inl rfl, putIf_facts hfacts.1 hfacts.2 x m, ?_⟩, ?_, ?_⟩
  · have := hAt.set 0 (.slice (some ⟨g, 0, none⟩) L'.length c6) (by simp)
    rw [← hL]
    exact this
  · rw [← hL]
    exact At.set_other hrow 0 _ (fun h => hgd h.symm)
  · rw [← hL]; exact hle
  · intro k hk
    have := hAt.1
    rcases hk with rfl | rfl <;> simp <;> assumption
  · intro i hi
    rcases hi with rfl | rfl
    · exact .inl hFd
    · exact .inr (by omega)
  · exact (Grew.below hbw).put (.inl hFd) _
theorem told_doc (M m : FM) : told (some M) m = (M.s.lt m.s || (decide (M.s = m.s) && (m.on && !M.on))) := by
  obtain ⟨⟨p, l, r⟩, on⟩ := M
  obtain ⟨⟨p', l', r'⟩, on'⟩ := m
  simp only [told, keepM, S3.lt, S3.mk.injEq]
  by_cases h1 : p < p' ∨ p = p' ∧ (l < l' ∨ l = l' ∧ r < r')
  · have h2 : ¬ (p' < p ∨ p' = p ∧ (l' < l ∨ l' = l ∧ r' < r)) := by omega
    have h3 : ¬ (p' = p ∧ l' = l ∧ r' = r) := by omega
    simp [h1, h2, h3]
  · by_cases h4 : p = p' ∧ l = l' ∧ r = r'
    · obtain ⟨rfl, rfl, rfl⟩ := h4
      cases on <;> cases on' <;> simp
    · have h2 : (p' < p ∨ p' = p ∧ (l' < l ∨ l' = l ∧ r' < r)) := by omega
      simp [h1, h2, h4]
theorem dput_set {w w6 : World} {d k g c : Nat} {F : Nat → Prop} {R : List FE} {x : ID} {m : FM} (hF : DS w d F R) (hb4 : Below w.heap.size w w6) (hAt : At w6 d [.slice (some ⟨g, 0, none⟩) R.length c]) (hrow : EF.Row w6 g R) (hg : F g) (hgd : g ≠ d) (hc : R.length ≤ c) (hcm : c ≤ maxLen) (hk : k < R.length)
    (hL : R.set k (x, m) = putIf R x m) : ∃ F' : Nat → Prop, DS (w6.setCells g (k * EF.n) (EF.cells (x, m))) d F' (putIf R x m) ∧ (∀ i, F' i → F i ∨ w.heap.size ≤ i) ∧ Grew F w (w6.setCells g (k * EF.n) (EF.cells (x, m))) := by
  obtain ⟨_, _, _, _, _, _, hFd, hfacts, hFlt⟩ := hF
  have hlen : (putIf R x m).length = R.length := by rw [← hL, List.length_set]
  refine ⟨F, ⟨some ⟨g, 0, none⟩, c, ?_, .inr ⟨g, rfl, hg, hgd, ?_⟩, by rw [hlen]; exact hc, hcm, hFd, putIf_facts hfacts.1 hfacts.2 x m, fun i hi => ?_⟩, fun i hi => .inl hi, (Grew.below hb4).setCells _ _ (.inl hg)⟩
  · rw [hlen]; exact hAt.setCells_other _ _ hgd
  · rw [← hL]; exact hrow.put hk (x, m)
  · rw [setCells_size]; exact Nat.lt_of_lt_of_le (hFlt i hi) hb4.size
theorem flagAgg (w : World) : (isAgg 72).run Try.prog w = .ok true w := by first | exact Try.isAgg72 w | go_simp
theorem flagSize (w : World) : (sizeOf 72).run Try.prog w = .ok 36 w := EF.sizeOf w
theorem flagZ (w : World) : (zeroValue 72).run Try.prog w = .ok (.agg (FE.cells z0FE).toArray) w := by
  obtain ⟨i, hi, hz, _⟩ := info_parts flaginfo
  simp [zeroValue, typeInfo, hi, hz]
  rfl
theorem flag_s5 {w4 w5 : World} (h : w5 = w4.alloc (.cells (FE.cells z0FE).toArray 72)) : At w5 w4.heap.size (FE.cells z0FE) ∧ Below w4.heap.size w4 w5 := by
  subst h
  exact ⟨At.new w4 _ _, (Below.refl _ w4).alloc (Nat.le_refl _) _⟩
theorem flag_s6 {w4 w5 w6 : World} {e : FE} (h5 : At w5 w4.heap.size (FE.cells z0FE) ∧ Below w4.heap.size w4 w5) (h : w6 = putL w5 w4.heap.size 0 (FE.cells e)) : At w6 w4.heap.size (FE.cells e) ∧ Below w4.heap.size w4 w6 := by
  subst h
  exact ⟨h5.1.putL _ (by rw [FE.cells_len, FE.cells_len]), below_putL _ 0 h5.2 (Nat.le_refl _)⟩
def QS (w4 : World) (n d : Nat) (x : ID) (sp sl sr : Int) (v : Value) (A : Option Addr) (R : List FE) (W : World) : Prop := At W n (bv x.l) ∧ At W (n + 1) [.int .i64 sp, .int .i64 sl, .int .i64 sr] ∧ At W d [v] ∧ Sl W w4.heap.size A (EF.dv R) ∧ w4.heap.size ≤ W.heap.size
theorem QS.grow {w4 : World} {n d : Nat} {x : ID} {sp sl sr : Int} {v : Value} {A : Option Addr} {R : List FE} {W W' : World} (h : QS w4 n d x sp sl sr v A R W) (hb : Below w4.heap.size W W') (hn : n + 1 < w4.heap.size) (hd : d < w4.heap.size) : QS w4 n d x sp sl sr v A R W' :=
  ⟨h.1.belowB (by omega) hb hb.size, h.2.1.belowB (by omega) hb hb.size, h.2.2.1.belowB hd hb hb.size, h.2.2.2.1.below hb, Nat.le_trans h.2.2.2.2 hb.size⟩
def QT (n d : Nat) (x : ID) (sp sl sr : Int) (v : Value) (W : World) : Prop := At W n (bv x.l) ∧ At W (n + 1) [.int .i64 sp, .int .i64 sl, .int .i64 sr] ∧ At W d [v]
set_option maxRecDepth 100000 in
set_option maxHeartbeats 3200000 in
theorem DPut_any (w : World) (d : Nat) (F : Nat → Prop) (R : List FE) (h : DS w d F R) (x : ID) (s : S3) (on' : Bool) (hn : R.length < 1000000) :
    Calls Try.prog 18 #[.pointer (some ⟨d, 0, none⟩), x.v, s.v, .bool on'] w (DPutPost w d F R x ⟨s, on'⟩) := by
  have HF := Lib.hid h
  have H32 := Lib.hid (show (bv x.l).length = 32 by rw [bv_len, x.h])
  obtain ⟨rt, hrt⟩ : ∃ rt, rt = s.right := ⟨_, rfl⟩
  have HRi := Lib.hid (fun w => RefRight_any w s)
  rw [← hrt] at HRi
  have HRT := Lib.hid hrt
  obtain ⟨sp, sl, sr⟩ := s
  clear hrt h
  unfold ID.v
  unfold S3.v at *
  have k0 := At.new w 25 (bv x.l).toArray
  have k1 := k0.alloc (.cells #[.int .i64 sp, .int .i64 sl, .int .i64 sr] 30)
  have k2 := At.new (w.alloc (.cells (bv x.l).toArray 25)) 30 #[.int .i64 sp, .int .i64 sl, .int .i64 sr]
  have hb2 : Below w.heap.size w ((w.alloc (.cells (bv x.l).toArray 25)).alloc (.cells #[.int .i64 sp, .int .i64 sl, .int .i64 sr] 30)) := ((Below.refl _ w).alloc (Nat.le_refl _) _).alloc (by simp) _
  have hs2 : ((w.alloc (.cells (bv x.l).toArray 25)).alloc (.cells #[.int .i64 sp, .int .i64 sl, .int .i64 sr] 30)).heap.size = w.heap.size + 2 := by simp
  rw [World.size_alloc] at k2
  have HK := Lib.hid (And.intro (show At _ w.heap.size (bv x.l) from k1) (And.intro (show At _ (w.heap.size + 1) ([.int .i64 sp, .int .i64 sl, .int .i64 sr] : List Value) from k2) (And.intro hb2 (HF.out.below hb2))))
  clear k0 k1 k2 hb2
  go_enter Try.func18, Try.ntmps18
  go_wp2_with (refine opVal rfl (ex_box32 rfl rfl) ?_)
  generalize (w.alloc (.cells (bv x.l).toArray 25)).alloc (.cells #[.int .i64 sp, .int .i64 sl, .int .i64 sr] 30) = w2 at *
  refine (HRi.out w2).mono ?_
  rintro e w3 ⟨rfl, hb3⟩
  have H3 := Lib.hid (And.intro (HK.out.1.below hb3) (And.intro (HK.out.2.1.below hb3) (And.intro (HK.out.2.2.1.trans (hb3.mono HK.out.2.2.1.size)) (HK.out.2.2.2.below hb3))))
  have hs3 : w.heap.size + 2 ≤ w3.heap.size := by have := hb3.size; omega
  clear HK hb3 hs2
  generalize w2.heap.size = n2 at *
  cases rt with
  | false =>
    go_wp2
    go_ret2
    exact ⟨by rw [← HRT.out]; rfl, F, by unfold putIf; rw [← HRT.out]; exact H3.out.2.2.2, fun i hi => .inl hi, Grew.below H3.out.2.2.1⟩
  | true =>
    have HFi := Lib.hid (Find_any w3 d F R H3.out.2.2.2 x hn)
    unfold ID.v at HFi
    go_wp2_with (refine opVal rfl (ex_ld32 rfl rfl H3.out.1 H32.out) ?_; simp only [Act.put, List.setIfInBounds_toArray, List.set_cons_zero, List.set_cons_succ])
    refine HFi.out.mono ?_
    rintro e w4 ⟨k, ok, rfl, hfi, hb4⟩
    have H4 := Lib.hid (And.intro (H3.out.1.below hb4) (And.intro (H3.out.2.1.below hb4) (And.intro (H3.out.2.2.1.trans (hb4.mono H3.out.2.2.1.size)) (H3.out.2.2.2.below hb4))))
    have hs4 : w.heap.size + 2 ≤ w4.heap.size := by have := hb4.size; omega
    have HI := Lib.hid hfi
    clear H3 HFi hb4 hs3 hfi
    cases ok with
    | false =>
      obtain ⟨A, c, h1, hsl, hc, hcm, hnil⟩ := H4.out.2.2.2.sl
      obtain ⟨m, hm⟩ : ∃ m, R.length = m := ⟨_, rfl⟩
      rw [hm] at h1 hc hn
      have hkm : k ≤ m := by rw [← hm]; exact HI.out.1
      have hput := putR_at R x ⟨⟨sp, sl, sr⟩, on'⟩ k z0FE HF.out.facts.1 HI.out.1 HI.out.2.1 HI.out.2.2.1
      have hno : ¬ (k < R.length ∧ (R[k]?.getD z0FE).1 = x) := of_decide_eq_false HI.out.2.2.2.symm
      replace hput : look R x = none ∧ putR R x ⟨⟨sp, sl, sr⟩, on'⟩ = R.take k ++ [(x, ⟨⟨sp, sl, sr⟩, on'⟩)] ++ R.drop k := by
        rcases hput with ⟨h1, h2, _⟩ | ⟨_, h2, h3⟩
        · exact absurd ⟨h1, h2⟩ hno
        · exact ⟨h2, h3⟩
      have HP := Lib.hid (And.intro hput hm)
      have hTL : (R.take k).length = k := by rw [List.length_take]; omega
      have hDL : (R.drop k).length = m - k := by rw [List.length_drop, hm]
      have HTL := Lib.hid (And.intro hTL hDL)
      clear hno hput hm hTL hDL
      obtain ⟨A2, hs2, hS2⟩ := EF.sl_post A m c k hkm hc
      have HS2 := Lib.hid (And.intro hs2 (And.intro hS2 hnil))
      have HB := Lib.hid (And.intro hsl (And.intro h1 hcm))
      have hdl : d < w4.heap.size := h1.1
      have hx0 : (0 : Int) ≤ (k : Int) := by omega
      clear hs2 hS2 hnil hsl h1 hcm
      go_wp2_with fail
      have hS0 : QS w4 w.heap.size d x sp sl sr (.slice A m c) A R w4.drew := ⟨H4.out.1, H4.out.2.1, HB.out.2.1, HB.out.1, Nat.le_refl _⟩
      have e0 : ∀ W, QS w4 w.heap.size d x sp sl sr (.slice A m c) A R W → W.cell? ⟨w.heap.size + 1, 0, none⟩ = some (.int .i64 sp) := fun W h => h.2.1.c 0 rfl
      have e1 : ∀ W, QS w4 w.heap.size d x sp sl sr (.slice A m c) A R W → W.cell? ⟨w.heap.size + 1, 1, none⟩ = some (.int .i64 sl) := fun W h => h.2.1.c 1 rfl
      have e2 : ∀ W, QS w4 w.heap.size d x sp sl sr (.slice A m c) A R W → W.cell? ⟨w.heap.size + 1, 2, none⟩ = some (.int .i64 sr) := fun W h => h.2.1.c 2 rfl
      have e4 : ∀ W, QS w4 w.heap.size d x sp sl sr (.slice A m c) A R W → W.cell? ⟨d, 0, none⟩ = some (.slice A m c) := fun W h => h.2.2.1.c 0 rfl
      refine bstartE (QS w4 w.heap.size d x sp sl sr (.slice A m c) A R) 23 (by kernel_rfl) ?_
      refine btakeE 0 [] (oi := _) (v := ?_) (by simp only [List.getElem?_toArray, List.getElem?_cons_zero]; rfl) (by kernel_rfl) (by exact fun _ _ _ h => h) (by first | assumption | exact KB.refl _) (.inl ⟨by rfl, fun W hW => ?_⟩) ?_; rotate_left
      · (go_simp; first | done | with_reducible rfl)
      try simp only [Act.put, List.setIfInBounds_toArray, List.set_cons_zero, List.set_cons_succ]
      refine btakeE 1 [] (oi := _) (v := ?_) (by simp only [List.getElem?_toArray, List.getElem?_cons_succ, List.getElem?_cons_zero]; rfl) (by kernel_rfl) (by exact fun _ _ _ h => h) (by first | assumption | exact KB.refl _) (.inl ⟨by rfl, fun W hW => ?_⟩) ?_; rotate_left
      · (go_simp; first | done | with_reducible rfl)
      try simp only [Act.put, List.setIfInBounds_toArray, List.set_cons_zero, List.set_cons_succ]
      refine btakeE 2 [] (oi := _) (v := ?_) (by simp only [List.getElem?_toArray, List.getElem?_cons_succ, List.getElem?_cons_zero]; rfl) (by kernel_rfl) (by exact fun _ _ _ h => h) (by first | assumption | exact KB.refl _) (.inl ⟨by rfl, fun W hW => ?_⟩) ?_; rotate_left
      · (go_simp; first | done | with_reducible rfl)
      try simp only [Act.put, List.setIfInBounds_toArray, List.set_cons_zero, List.set_cons_succ]
      refine btakeE 3 [] (oi := _) (v := ?_) (by simp only [List.getElem?_toArray, List.getElem?_cons_succ, List.getElem?_cons_zero]; rfl) (by kernel_rfl) (by exact fun _ _ _ h => h) (by first | assumption | exact KB.refl _) (.inl ⟨by rfl, fun W hW => ?_⟩) ?_; rotate_left
      · (go_simp; first | done | with_reducible rfl)
      try simp only [Act.put, List.setIfInBounds_toArray, List.set_cons_zero, List.set_cons_succ]
      refine btakeE 4 [] (oi := _) (v := ?_) (by simp only [List.getElem?_toArray, List.getElem?_cons_succ, List.getElem?_cons_zero]; rfl) (by kernel_rfl) (by exact fun _ _ _ h => h) (by first | assumption | exact KB.refl _) (.inl ⟨by rfl, fun W hW => ?_⟩) ?_; rotate_left
      · (go_simp; first | done | with_reducible rfl)
      try simp only [Act.put, List.setIfInBounds_toArray, List.set_cons_zero, List.set_cons_succ]
      refine btakeE 5 [] (oi := _) (v := ?_) (by simp only [List.getElem?_toArray, List.getElem?_cons_succ, List.getElem?_cons_zero]; rfl) (by kernel_rfl) (by exact fun _ _ _ h => h) (by first | assumption | exact KB.refl _) (.inl ⟨by rfl, fun W hW => ?_⟩) ?_; rotate_left
      · (go_simp; first | done | with_reducible rfl)
      try simp only [Act.put, List.setIfInBounds_toArray, List.set_cons_zero, List.set_cons_succ]
      refine btakeE 6 [] (oi := _) (v := ?_) (by simp only [List.getElem?_toArray, List.getElem?_cons_succ, List.getElem?_cons_zero]; rfl) (by kernel_rfl) (by exact fun _ _ _ h => h) (by first | assumption | exact KB.refl _) (.inl ⟨by rfl, fun W hW => ?_⟩) ?_; rotate_left
      · (go_simp; first | done | with_reducible rfl)
      try simp only [Act.put, List.setIfInBounds_toArray, List.set_cons_zero, List.set_cons_succ]
      refine btakeE 7 [] (oi := _) (v := ?_) (by simp only [List.getElem?_toArray, List.getElem?_cons_succ, List.getElem?_cons_zero]; rfl) (by kernel_rfl) (by exact fun _ _ _ h => h) (by first | assumption | exact KB.refl _) (.inl ⟨by rfl, fun W hW => ?_⟩) ?_; rotate_left
      · refine Eq.trans (EF.exec_pre (x := .tmp 28) (y := .tmp 29) (z := .tmp 30) (A := A) (m := m) (c := c) (j := k) ?_ ?_ ?_ ?_ (by omega) _) ?_ <;> first | rfl | with_reducible rfl
      try simp only [Act.put, List.setIfInBounds_toArray, List.set_cons_zero, List.set_cons_succ]
      refine btakeE 8 [] (oi := _) (v := ?_) (by simp only [List.getElem?_toArray, List.getElem?_cons_succ, List.getElem?_cons_zero]; rfl) (by kernel_rfl) (by exact fun _ _ _ h => h) (by first | assumption | exact KB.refl _) (.inl ⟨by rfl, fun W hW => ?_⟩) ?_; rotate_left
      · refine Eq.trans (ex_ld32 (us := bv x.l) (by rfl) (by rfl) hW.1 H32.out) ?_
        with_reducible rfl
      try simp only [Act.put, List.setIfInBounds_toArray, List.set_cons_zero, List.set_cons_succ]
      refine btakeE 9 [] (oi := _) (v := ?_) (by simp only [List.getElem?_toArray, List.getElem?_cons_succ, List.getElem?_cons_zero]; rfl) (by kernel_rfl) (by exact fun _ _ _ h => h) (by first | assumption | exact KB.refl _) (.inl ⟨by rfl, fun W hW => ?_⟩) ?_; rotate_left
      · (go_simp; first | done | with_reducible rfl)
      try simp only [Act.put, List.setIfInBounds_toArray, List.set_cons_zero, List.set_cons_succ]
      refine btakeE 10 [] (oi := _) (v := ?_) (by simp only [List.getElem?_toArray, List.getElem?_cons_succ, List.getElem?_cons_zero]; rfl) (by kernel_rfl) (by exact fun _ _ _ h => h) (by first | assumption | exact KB.refl _) (.inl ⟨by rfl, fun W hW => ?_⟩) ?_; rotate_left
      · (go_simp; first | done | with_reducible rfl)
      try simp only [Act.put, List.setIfInBounds_toArray, List.set_cons_zero, List.set_cons_succ]
      refine btakeE 11 [] (oi := _) (v := ?_) (by simp only [List.getElem?_toArray, List.getElem?_cons_succ, List.getElem?_cons_zero]; rfl) (by kernel_rfl) (by exact fun _ _ _ h => h) (by first | assumption | exact KB.refl _) (.inl ⟨by rfl, fun W hW => ?_⟩) ?_; rotate_left
      · refine Eq.trans (ex_bldT (by rfl) (by simp only [List.map_toArray, List.map_cons, List.map_nil]; rfl) (flag_built x sp sl sr on')) ?_
        with_reducible rfl
      try simp only [Act.put, List.setIfInBounds_toArray, List.set_cons_zero, List.set_cons_succ]
      refine btakeE 13 [] (oi := _) (v := ?_) (by simp only [List.getElem?_toArray, List.getElem?_cons_succ, List.getElem?_cons_zero]; rfl) (by kernel_rfl) (by exact fun _ _ _ h => h) (by first | assumption | exact KB.refl _) (.inl ⟨by rfl, fun W hW => ?_⟩) ?_; rotate_left
      · (go_simp; first | done | with_reducible rfl)
      try simp only [Act.put, List.setIfInBounds_toArray, List.set_cons_zero, List.set_cons_succ]
      refine btakeE 14 [] (oi := _) (v := ?_) (by simp only [List.getElem?_toArray, List.getElem?_cons_succ, List.getElem?_cons_zero]; rfl) (by kernel_rfl) (by exact fun _ _ _ h => h) (by first | assumption | exact KB.refl _) (.inl ⟨by rfl, fun W hW => ?_⟩) ?_; rotate_left
      · (go_simp; first | done | with_reducible rfl)
      try simp only [Act.put, List.setIfInBounds_toArray, List.set_cons_zero, List.set_cons_succ]
      refine btakeE 15 [] (oi := _) (v := ?_) (by simp only [List.getElem?_toArray, List.getElem?_cons_succ, List.getElem?_cons_zero]; rfl) (by kernel_rfl) (by exact fun _ _ _ h => h) (by first | assumption | exact KB.refl _) (.inl ⟨by rfl, fun W hW => ?_⟩) ?_; rotate_left
      · (go_simp; first | done | with_reducible rfl)
      try simp only [Act.put, List.setIfInBounds_toArray, List.set_cons_zero, List.set_cons_succ]
      refine btakeE 16 [] (oi := _) (v := ?_) (by simp only [List.getElem?_toArray, List.getElem?_cons_succ, List.getElem?_cons_zero]; rfl) (by kernel_rfl) (by exact fun _ _ _ h => h) (by first | assumption | exact KB.refl _) (.inl ⟨by rfl, fun W hW => ?_⟩) ?_; rotate_left
      · (go_simp; first | done | with_reducible rfl)
      try simp only [Act.put, List.setIfInBounds_toArray, List.set_cons_zero, List.set_cons_succ]
      refine btakeE 17 [] (oi := _) (v := ?_) (by simp only [List.getElem?_toArray, List.getElem?_cons_succ, List.getElem?_cons_zero]; rfl) (by kernel_rfl) (by exact fun _ _ _ h => h) (by first | assumption | exact KB.refl _) (.inl ⟨by rfl, fun W hW => ?_⟩) ?_; rotate_left
      · (go_simp; first | done | with_reducible rfl)
      try simp only [Act.put, List.setIfInBounds_toArray, List.set_cons_zero, List.set_cons_succ]
      refine btakeE 18 [] (oi := _) (v := ?_) (by simp only [List.getElem?_toArray, List.getElem?_cons_succ, List.getElem?_cons_zero]; rfl) (by kernel_rfl) (by exact fun _ _ _ h => h) (by first | assumption | exact KB.refl _) (.inl ⟨by rfl, fun W hW => ?_⟩) ?_; rotate_left
      · refine Eq.trans (EF.exec_post (x := .tmp 40) (y := .tmp 41) (A := A) (m := m) (c := c) (j := k) ?_ ?_ ?_ HS2.out.1 _) ?_ <;> first | rfl | with_reducible rfl
      try simp only [Act.put, List.setIfInBounds_toArray, List.set_cons_zero, List.set_cons_succ]
      -- 12: Op.buildSlice 42 1 #[(0, Operand.tmp 35)]
      refine bopE 12 (o := _) (by simp only [List.getElem?_toArray, List.getElem?_cons_succ, List.getElem?_cons_zero]; rfl) (by kernel_rfl) (by rfl) (fun K hK => ?_)
      refine wpVal (EF.ex_bs1 (by rfl) (x, ⟨⟨sp, sl, sr⟩, on'⟩) (by rfl)) ?_
      have hol := EF.own1 w4.drew (x, ⟨⟨sp, sl, sr⟩, on'⟩)
      have hbl : Below w4.heap.size w4 (w4.drew.alloc (.cells (EF.cells (x, ⟨⟨sp, sl, sr⟩, on'⟩)).toArray 72)) := (Below.refl w4.heap.size w4).drew.alloc (Nat.le_refl _) _
      have hkb := hS0.grow ((Below.refl w4.heap.size w4.drew).alloc (Nat.le_refl _) (.cells (EF.cells (x, ⟨⟨sp, sl, sr⟩, on'⟩)).toArray 72)) (by omega) hdl
      refine hK.out _ _ hkb ?_; clear hK K
      try simp only [Act.put, List.setIfInBounds_toArray, List.set_cons_zero, List.set_cons_succ]
      -- 19: Op.call { callee := Callee.builtin Builtin.append, args := #[Operand.tmp 36, Operand.tmp 42], argTypes := #[42, 42] }
      refine bopE 19 (o := _) (by simp only [List.getElem?_toArray, List.getElem?_cons_succ, List.getElem?_cons_zero]; rfl) (by kernel_rfl) (by rfl) (fun K hK => ?_)
      have hSd := HS2.out.2.1 _ _ R HP.out.2 ((HB.out.1.below hbl).more hbl.size)
      refine wp_appE rfl hol hSd HTL.out.2.symm rfl rfl (by rw [HTL.out.2, List.length_singleton]; omega) (by simp) ?_
      intro v5 w5 hown5 hg5 hat5
      have hb5 : Below w4.heap.size w4 w5 := hol.below_of hbl hbl.size hg5
      obtain ⟨A5, c5, rfl, _, _, hs5, _⟩ := hown5.form
      have hkb := hS0.grow (show Below w4.heap.size w4.drew w5 from ⟨hb5.os, hb5.tape, hb5.output, hb5.size, hb5.block⟩) (by omega) hdl
      refine hK.out _ _ hkb ?_; clear hK K
      try simp only [Act.put, List.setIfInBounds_toArray, List.set_cons_zero, List.set_cons_succ]
      -- 20: Op.call { callee := Callee.builtin Builtin.append, args := #[Operand.tmp 31, Operand.tmp 43], argTypes := #[42, 42] }
      refine bopE 20 (o := _) (by simp only [List.getElem?_toArray, List.getElem?_cons_succ, List.getElem?_cons_zero]; rfl) (by kernel_rfl) (by rfl) (fun K hK => ?_)
      have hSp : Sl w5 w4.heap.size A (EF.dv (R.take k)) := by rw [← EF.dv_take]; exact (HB.out.1.below hb5).tk _
      refine wp_appFE rfl hSp HTL.out.1.symm hs5 rfl rfl rfl (by simp) (fun e => by have h0 := HS2.out.2.2 e; have h2 := HP.out.2; rw [h0.1] at h2; simp at h2; omega) (Nat.le_refl _) (by simp [HTL.out.1, HTL.out.2]; omega) ?_
      intro v6 w6 hown6 hg6
      have hb6 := hb5.trans ((belowN hg6).mono hb5.size)
      obtain ⟨A6, c6, rfl, _⟩ := hown6.form
      have hkb := hS0.grow (show Below w4.heap.size w4.drew w6 from ⟨hb6.os, hb6.tape, hb6.output, hb6.size, hb6.block⟩) (by omega) hdl
      have zc := hkb.2.2.1.c 0 rfl
      have zf := hkb.2.2.1.f 0 rfl
      refine hK.out _ _ hkb ?_; clear hK K
      try simp only [Act.put, List.setIfInBounds_toArray, List.set_cons_zero, List.set_cons_succ]
      refine btakeE 21 [22] (oi := _) (v := ?_) (by simp only [List.getElem?_toArray, List.getElem?_cons_succ, List.getElem?_cons_zero]; rfl) (by kernel_rfl) (by exact fun _ _ _ h => h) (by first | assumption | exact KB.refl _) (.inl ⟨by rfl, fun W hW => ?_⟩) ?_; rotate_left
      · (go_simp; first | done | with_reducible rfl)
      try simp only [Act.put, List.setIfInBounds_toArray, List.set_cons_zero, List.set_cons_succ]
      refine btakeE 22 [] (oi := _) (v := ?_) (by simp only [List.getElem?_toArray, List.getElem?_cons_succ, List.getElem?_cons_zero]; rfl) (by kernel_rfl) (by exact fun _ _ _ h => h) (by first | assumption | exact KB.refl _) (.inl ⟨by rfl, fun W hW => ?_⟩) ?_; rotate_left
      · (go_simp; first | done | with_reducible rfl)
      try simp only [Act.put, List.setIfInBounds_toArray, List.set_cons_zero, List.set_cons_succ]
      -- 23: Op.store 42 (Operand.tmp 46) (Operand.tmp 44)
      refine blastE 23 (o := _) (by simp only [List.getElem?_toArray, List.getElem?_cons_succ, List.getElem?_cons_zero]; rfl) (by kernel_rfl) (by rfl) (by rfl) (fun K hK => ?_)
      go_simp
      skip
      refine hK.out _ _ ?_; clear hK K
      try simp only [Act.put, List.setIfInBounds_toArray, List.set_cons_zero, List.set_cons_succ]
      refine bdoneE (by kernel_rfl) ?_
      rw [show (R.take k ++ ([((x, (⟨⟨sp, sl, sr⟩, on'⟩ : FM)) : FE)] ++ R.drop k)).length = min k R.length + (R.length - k + 1) from by simp] at hown6
      have HD := Lib.hid (dput_new (d := d) (B := w5.heap.size) (n6 := min k R.length + (R.length - k + 1)) (c6 := c6) (x := x) (m := ⟨⟨sp, sl, sr⟩, on'⟩) HF.out H4.out.2.2.1 hb6 hown6 (by have := hb5.size; omega) hkb.2.2.1 (by unfold putIf; rw [← HRT.out, if_pos rfl, HP.out.1.2, List.append_assoc]) (by simp) (by simp; omega))
      have HTO := Lib.hid (told_none (k := ⟨⟨sp, sl, sr⟩, on'⟩) (show (look R x).isSome = false by rw [HP.out.1.1]; rfl))
      clear hkb hS0 e0 e1 e2 e4 hol hbl hSd hown5 hg5 hat5 hb5 hs5 hSp hown6 hg6 hb6 zc zf
      go_wp2_with fail
      go_ret2
      exact ⟨by rw [← HRT.out, HTO.out]; rfl, HD.out⟩
    | true =>
      obtain ⟨A, c, h1, h2, hc, hcm, hFd, hfac, hFlt⟩ := H4.out.2.2.2
      have hyes : k < R.length ∧ (R[k]?.getD z0FE).1 = x := of_decide_eq_true HI.out.2.2.2.symm
      have hkl := hyes.1
      obtain ⟨g, rfl, hgF, hgd, hrow⟩ : ∃ g, A = some ⟨g, 0, none⟩ ∧ F g ∧ g ≠ d ∧ EF.Row w4 g R := by
        rcases h2 with ⟨_, h, _⟩ | h
        · rw [h] at hkl; simp at hkl
        · exact h
      have hput := putR_at R x ⟨⟨sp, sl, sr⟩, on'⟩ k z0FE hfac.1 HI.out.1 HI.out.2.1 HI.out.2.2.1
      obtain ⟨⟨y, ⟨⟨p, l, r⟩, on⟩⟩, hy⟩ : ∃ e, R[k]? = some e := ⟨_, List.getElem?_eq_getElem hkl⟩
      replace hput : look R x = some ⟨⟨p, l, r⟩, on⟩ ∧ putR R x ⟨⟨sp, sl, sr⟩, on'⟩ = R.set k (x, mxO (some ⟨⟨p, l, r⟩, on⟩) ⟨⟨sp, sl, sr⟩, on'⟩) := by
        rcases hput with ⟨_, _, h2, h3⟩ | ⟨h1, _⟩
        · rw [hy] at h2
          rw [h2] at h3
          exact ⟨h2, h3⟩
        · exact absurd hyes h1
      obtain ⟨m, hm⟩ : ∃ m, R.length = m := ⟨_, rfl⟩
      rw [hm] at h1 hc hn hkl
      obtain ⟨g', o', e', hgl, _, hc0, hc1, hc2, hc3, hcs⟩ := flagAt (ET.Row.sl hrow) hy
      simp only [Option.some.injEq, Addr.mk.injEq] at e'
      obtain ⟨rfl, rfl, _⟩ := e'
      simp only [Nat.zero_add] at hcs
      have HP := Lib.hid (And.intro hput hm)
      have HR := Lib.hid (And.intro h1 (And.intro hrow (And.intro hgF (And.intro hgd (And.intro hc hcm)))))
      have HC := Lib.hid (And.intro hcs (FE.cells_len (y, ⟨⟨p, l, r⟩, on⟩)))
      have hz := h1.c 0 rfl
      clear hyes hput hm h1 h2 hrow hgF hgd hcm hFd hfac hFlt hcs hc0 hc1 hc2 hc3 hy
      have hx0 : (0 : Int) ≤ (k : Int) := by omega
      have hx1 : (k : Int) < (m : Int) := by omega
      go_wp2_with (first
        | (refine opVal rfl (ex_ldTo flagAgg flagSize rfl rfl HC.out.1 HC.out.2) ?_; simp only [Act.put, List.setIfInBounds_toArray, List.set_cons_zero, List.set_cons_succ])
        | (refine opValV rfl (ex_alT flagZ rfl) ?_; intro w5 hw5; have hq5 := Lib.hid (flag_s5 hw5); clear hw5; simp only [Act.put, List.setIfInBounds_toArray, List.set_cons_zero, List.set_cons_succ])
        | (refine opSkipV rfl (ex_stT flagSize (by rfl) (by rfl) (us := FE.cells (y, ⟨⟨p, l, r⟩, on⟩)) (by rfl) hq5.out.1 (FE.cells_len _) (FE.cells_len _) (EF.one _)) ?_; intro w6 hw6; have hq6 := Lib.hid (flag_s6 hq5.out hw6); clear hw6
           have c0 := hq6.out.1.c 32 (v := .int .i64 p) ((FE.m_cell _ 0).trans rfl)
           have c1 := hq6.out.1.c 33 (v := .int .i64 l) ((FE.m_cell _ 1).trans rfl)
           have c2 := hq6.out.1.c 34 (v := .int .i64 r) ((FE.m_cell _ 2).trans rfl)
           have z0 := (H4.out.2.1.below hq6.out.2).c 0 rfl
           have z1 := (H4.out.2.1.below hq6.out.2).c 1 rfl
           have z2 := (H4.out.2.1.below hq6.out.2).c 2 rfl
           simp only [Act.put])
        | fail)
      have hbw6 := H4.out.2.2.1.trans (hq6.out.2.mono H4.out.2.2.1.size)
      have H6 := Lib.hid (And.intro (H4.out.1.below hq6.out.2) (And.intro (H4.out.2.1.below hq6.out.2) (And.intro (H4.out.2.2.1.trans (hq6.out.2.mono H4.out.2.2.1.size)) (And.intro (HR.out.1.below hq6.out.2) (And.intro (ET.Row.below HR.out.2.1 hq6.out.2) hq6.out.1)))))
      have hs6 : w4.heap.size < w6.heap.size := hq6.out.1.1
      have hdl : d < w4.heap.size := HR.out.1.1
      obtain ⟨lt, hlt⟩ : ∃ lt, S3.lt ⟨p, l, r⟩ ⟨sp, sl, sr⟩ = lt := ⟨_, rfl⟩
      obtain ⟨eq, heq⟩ : ∃ eq, decide ((⟨p, l, r⟩ : S3) = ⟨sp, sl, sr⟩) = eq := ⟨_, rfl⟩
      have hEq := fun W => eq3 W ⟨p, l, r⟩ ⟨sp, sl, sr⟩
      have hLe := (fun W => RefLess_any W ⟨p, l, r⟩ ⟨sp, sl, sr⟩) w6
      have hto := told_doc ⟨⟨p, l, r⟩, on⟩ ⟨⟨sp, sl, sr⟩, on'⟩
      rw [← HP.out.1.1] at hto
      simp only at hto
      rw [heq] at hEq hto
      rw [hlt] at hLe hto
      have HTD := Lib.hid hto
      simp only [S3.v] at hEq
      have HC35 := Lib.hid (hq6.out.1.c 35 (v := .bool on) ((FE.m_cell _ 3).trans rfl))
      clear hlt heq hto c0 c1 c2 z0 z1 z2 hz
      refine hLe.mono ?_
      rintro e w7 ⟨rfl, hb7⟩
      have H7 := Lib.hid (And.intro (H6.out.1.below hb7) (And.intro (H6.out.2.1.below hb7) (And.intro (H6.out.2.2.1.trans (hb7.mono H6.out.2.2.1.size)) (And.intro (H6.out.2.2.2.1.below hb7) (And.intro (ET.Row.below H6.out.2.2.2.2.1 hb7) (H6.out.2.2.2.2.2.below hb7))))))
      have c0 := H7.out.2.2.2.2.2.c 32 (v := .int .i64 p) ((FE.m_cell _ 0).trans rfl)
      have c1 := H7.out.2.2.2.2.2.c 33 (v := .int .i64 l) ((FE.m_cell _ 1).trans rfl)
      have c2 := H7.out.2.2.2.2.2.c 34 (v := .int .i64 r) ((FE.m_cell _ 2).trans rfl)
      have c3 := H7.out.2.2.2.2.2.c 35 (v := .bool on) ((FE.m_cell _ 3).trans rfl)
      have z0 := H7.out.2.1.c 0 rfl
      have z1 := H7.out.2.1.c 1 rfl
      have z2 := H7.out.2.1.c 2 rfl
      clear hLe H6 hq5 hq6 HC35 hbw6
      cases lt with
      | true =>
        have hset : R.set k (x, ⟨⟨sp, sl, sr⟩, on'⟩) = putIf R x ⟨⟨sp, sl, sr⟩, on'⟩ := by
          unfold putIf
          have h := HP.out.1.2
          have ht := HTD.out
          rw [HP.out.1.1] at ht
          rw [mxO_told, ht] at h
          rw [← HRT.out, if_pos rfl, h]
          rfl
        have HS := Lib.hid hset
        clear hset
        go_wp2_with fail
        clear c0 c1 c2 c3 z0 z1 z2 hEq
        have hS0 : QT w.heap.size d x sp sl sr (.slice (some ⟨g, 0, none⟩) m c) w7.drew := ⟨H7.out.1, H7.out.2.1, H7.out.2.2.2.1⟩
        have e0 : ∀ W, QT w.heap.size d x sp sl sr (.slice (some ⟨g, 0, none⟩) m c) W → W.cell? ⟨w.heap.size + 1, 0, none⟩ = some (.int .i64 sp) := fun W h => h.2.1.c 0 rfl
        have e1 : ∀ W, QT w.heap.size d x sp sl sr (.slice (some ⟨g, 0, none⟩) m c) W → W.cell? ⟨w.heap.size + 1, 1, none⟩ = some (.int .i64 sl) := fun W h => h.2.1.c 1 rfl
        have e2 : ∀ W, QT w.heap.size d x sp sl sr (.slice (some ⟨g, 0, none⟩) m c) W → W.cell? ⟨w.heap.size + 1, 2, none⟩ = some (.int .i64 sr) := fun W h => h.2.1.c 2 rfl
        have e4 : ∀ W, QT w.heap.size d x sp sl sr (.slice (some ⟨g, 0, none⟩) m c) W → W.cell? ⟨d, 0, none⟩ = some (.slice (some ⟨g, 0, none⟩) m c) := fun W h => h.2.2.c 0 rfl
        refine bstartE (QT w.heap.size d x sp sl sr (.slice (some ⟨g, 0, none⟩) m c)) 10 (by kernel_rfl) ?_
        refine btakeE 0 [] (oi := _) (v := ?_) (by simp only [List.getElem?_toArray, List.getElem?_cons_zero]; rfl) (by kernel_rfl) (by exact fun _ _ _ h => h) (by first | assumption | exact KB.refl _) (.inl ⟨by rfl, fun W hW => ?_⟩) ?_; rotate_left
        · (go_simp; first | done | with_reducible rfl)
        try simp only [Act.put, List.setIfInBounds_toArray, List.set_cons_zero, List.set_cons_succ]
        refine btakeE 1 [] (oi := _) (v := ?_) (by simp only [List.getElem?_toArray, List.getElem?_cons_succ, List.getElem?_cons_zero]; rfl) (by kernel_rfl) (by exact fun _ _ _ h => h) (by first | assumption | exact KB.refl _) (.inl ⟨by rfl, fun W hW => ?_⟩) ?_; rotate_left
        · (go_simp; first | done | with_reducible rfl)
        try simp only [Act.put, List.setIfInBounds_toArray, List.set_cons_zero, List.set_cons_succ]
        refine btakeE 2 [] (oi := _) (v := ?_) (by simp only [List.getElem?_toArray, List.getElem?_cons_succ, List.getElem?_cons_zero]; rfl) (by kernel_rfl) (by exact fun _ _ _ h => h) (by first | assumption | exact KB.refl _) (.inl ⟨by rfl, fun W hW => ?_⟩) ?_; rotate_left
        · (go_simp; first | done | with_reducible rfl)
        try simp only [Act.put, List.setIfInBounds_toArray, List.set_cons_zero, List.set_cons_succ]
        refine btakeE 3 [] (oi := _) (v := ?_) (by simp only [List.getElem?_toArray, List.getElem?_cons_succ, List.getElem?_cons_zero]; rfl) (by kernel_rfl) (by exact fun _ _ _ h => h) (by first | assumption | exact KB.refl _) (.inl ⟨by rfl, fun W hW => ?_⟩) ?_; rotate_left
        · (go_simp; first | done | with_reducible rfl)
        try simp only [Act.put, List.setIfInBounds_toArray, List.set_cons_zero, List.set_cons_succ]
        refine btakeE 4 [] (oi := _) (v := ?_) (by simp only [List.getElem?_toArray, List.getElem?_cons_succ, List.getElem?_cons_zero]; rfl) (by kernel_rfl) (by exact fun _ _ _ h => h) (by first | assumption | exact KB.refl _) (.inl ⟨by rfl, fun W hW => ?_⟩) ?_; rotate_left
        · (go_simp; first | done | with_reducible rfl)
        try simp only [Act.put, List.setIfInBounds_toArray, List.set_cons_zero, List.set_cons_succ]
        refine btakeE 5 [] (oi := _) (v := ?_) (by simp only [List.getElem?_toArray, List.getElem?_cons_succ, List.getElem?_cons_zero]; rfl) (by kernel_rfl) (by exact fun _ _ _ h => h) (by first | assumption | exact KB.refl _) (.inl ⟨by rfl, fun W hW => ?_⟩) ?_; rotate_left
        · refine Eq.trans (ex_ld32 (us := bv x.l) (by rfl) (by rfl) hW.1 H32.out) ?_
          with_reducible rfl
        try simp only [Act.put, List.setIfInBounds_toArray, List.set_cons_zero, List.set_cons_succ]
        refine btakeE 6 [] (oi := _) (v := ?_) (by simp only [List.getElem?_toArray, List.getElem?_cons_succ, List.getElem?_cons_zero]; rfl) (by kernel_rfl) (by exact fun _ _ _ h => h) (by first | assumption | exact KB.refl _) (.inl ⟨by rfl, fun W hW => ?_⟩) ?_; rotate_left
        · (go_simp; first | done | with_reducible rfl)
        try simp only [Act.put, List.setIfInBounds_toArray, List.set_cons_zero, List.set_cons_succ]
        refine btakeE 7 [] (oi := _) (v := ?_) (by simp only [List.getElem?_toArray, List.getElem?_cons_succ, List.getElem?_cons_zero]; rfl) (by kernel_rfl) (by exact fun _ _ _ h => h) (by first | assumption | exact KB.refl _) (.inl ⟨by rfl, fun W hW => ?_⟩) ?_; rotate_left
        · (go_simp; first | done | with_reducible rfl)
        try simp only [Act.put, List.setIfInBounds_toArray, List.set_cons_zero, List.set_cons_succ]
        refine btakeE 8 [] (oi := _) (v := ?_) (by simp only [List.getElem?_toArray, List.getElem?_cons_succ, List.getElem?_cons_zero]; rfl) (by kernel_rfl) (by exact fun _ _ _ h => h) (by first | assumption | exact KB.refl _) (.inl ⟨by rfl, fun W hW => ?_⟩) ?_; rotate_left
        · refine Eq.trans (ex_bldT (by rfl) (by simp only [List.map_toArray, List.map_cons, List.map_nil]; rfl) (flag_built x sp sl sr on')) ?_
          with_reducible rfl
        try simp only [Act.put, List.setIfInBounds_toArray, List.set_cons_zero, List.set_cons_succ]
        refine btakeE 9 [] (oi := _) (v := ?_) (by simp only [List.getElem?_toArray, List.getElem?_cons_succ, List.getElem?_cons_zero]; rfl) (by kernel_rfl) (by exact fun _ _ _ h => h) (by first | assumption | exact KB.refl _) (.inl ⟨by rfl, fun W hW => ?_⟩) ?_; rotate_left
        · (go_simp; first | done | with_reducible rfl)
        try simp only [Act.put, List.setIfInBounds_toArray, List.set_cons_zero, List.set_cons_succ]
        -- 10: Op.store 72 (Operand.tmp 81) (Operand.tmp 80)
        refine blastE 10 (o := _) (by simp only [List.getElem?_toArray, List.getElem?_cons_succ, List.getElem?_cons_zero]; rfl) (by kernel_rfl) (by rfl) (by rfl) (fun K hK => ?_)
        refine wpSkip (EF.ex_set (by rfl) (ET.Row.below H7.out.2.2.2.2.1 ((Below.refl _ w7).drew)) (by rw [HP.out.2]; exact hkl) (x, ⟨⟨sp, sl, sr⟩, on'⟩) (by rfl) (by rfl)) ?_
        refine hK.out _ _ ?_; clear hK K
        try simp only [Act.put]
        refine bdoneE (by kernel_rfl) ?_
        clear hS0 e0 e1 e2 e4
        go_wp2_with fail
        go_ret2
        exact ⟨by rw [← HRT.out, HTD.out]; rfl, dput_set HF.out H7.out.2.2.1.drew (by rw [HP.out.2]; exact H7.out.2.2.2.1) H7.out.2.2.2.2.1 HR.out.2.2.1 HR.out.2.2.2.1 (by rw [HP.out.2]; exact HR.out.2.2.2.2.1) HR.out.2.2.2.2.2 (by rw [HP.out.2]; exact hkl) HS.out⟩
      | false =>
        cases eq with
        | false =>
          go_wp2_with fail
          go_ret2
          exact ⟨by rw [← HRT.out, HTD.out]; rfl, F, by unfold putIf; rw [← HRT.out, if_pos rfl, put_keep HF.out.facts.1 x _ HTD.out]; exact HF.out.below H7.out.2.2.1, fun i hi => .inl hi, Grew.below H7.out.2.2.1⟩
        | true =>
          cases on' with
          | false =>
            go_wp2_with fail
            go_ret2
            exact ⟨by rw [← HRT.out, HTD.out]; rfl, F, by unfold putIf; rw [← HRT.out, if_pos rfl, put_keep HF.out.facts.1 x _ HTD.out]; exact HF.out.below H7.out.2.2.1, fun i hi => .inl hi, Grew.below H7.out.2.2.1⟩
          | true =>
            cases on with
            | true =>
              go_wp2_with fail
              go_ret2
              exact ⟨by rw [← HRT.out, HTD.out]; rfl, F, by unfold putIf; rw [← HRT.out, if_pos rfl, put_keep HF.out.facts.1 x _ HTD.out]; exact HF.out.below H7.out.2.2.1, fun i hi => .inl hi, Grew.below H7.out.2.2.1⟩
            | false =>
              have hset : R.set k (x, ⟨⟨sp, sl, sr⟩, true⟩) = putIf R x ⟨⟨sp, sl, sr⟩, true⟩ := by
                unfold putIf
                have h := HP.out.1.2
                have ht := HTD.out
                rw [HP.out.1.1] at ht
                rw [mxO_told, ht] at h
                rw [← HRT.out, if_pos rfl, h]
                rfl
              have HS := Lib.hid hset
              clear hset
              go_wp2_with fail
              clear c0 c1 c2 c3 z0 z1 z2 hEq
              have hS0 : QT w.heap.size d x sp sl sr (.slice (some ⟨g, 0, none⟩) m c) w7.drew := ⟨H7.out.1, H7.out.2.1, H7.out.2.2.2.1⟩
              have e0 : ∀ W, QT w.heap.size d x sp sl sr (.slice (some ⟨g, 0, none⟩) m c) W → W.cell? ⟨w.heap.size + 1, 0, none⟩ = some (.int .i64 sp) := fun W h => h.2.1.c 0 rfl
              have e1 : ∀ W, QT w.heap.size d x sp sl sr (.slice (some ⟨g, 0, none⟩) m c) W → W.cell? ⟨w.heap.size + 1, 1, none⟩ = some (.int .i64 sl) := fun W h => h.2.1.c 1 rfl
              have e2 : ∀ W, QT w.heap.size d x sp sl sr (.slice (some ⟨g, 0, none⟩) m c) W → W.cell? ⟨w.heap.size + 1, 2, none⟩ = some (.int .i64 sr) := fun W h => h.2.1.c 2 rfl
              have e4 : ∀ W, QT w.heap.size d x sp sl sr (.slice (some ⟨g, 0, none⟩) m c) W → W.cell? ⟨d, 0, none⟩ = some (.slice (some ⟨g, 0, none⟩) m c) := fun W h => h.2.2.c 0 rfl
              refine bstartE (QT w.heap.size d x sp sl sr (.slice (some ⟨g, 0, none⟩) m c)) 10 (by kernel_rfl) ?_
              refine btakeE 0 [] (oi := _) (v := ?_) (by simp only [List.getElem?_toArray, List.getElem?_cons_zero]; rfl) (by kernel_rfl) (by exact fun _ _ _ h => h) (by first | assumption | exact KB.refl _) (.inl ⟨by rfl, fun W hW => ?_⟩) ?_; rotate_left
              · (go_simp; first | done | with_reducible rfl)
              try simp only [Act.put, List.setIfInBounds_toArray, List.set_cons_zero, List.set_cons_succ]
              refine btakeE 1 [] (oi := _) (v := ?_) (by simp only [List.getElem?_toArray, List.getElem?_cons_succ, List.getElem?_cons_zero]; rfl) (by kernel_rfl) (by exact fun _ _ _ h => h) (by first | assumption | exact KB.refl _) (.inl ⟨by rfl, fun W hW => ?_⟩) ?_; rotate_left
              · (go_simp; first | done | with_reducible rfl)
              try simp only [Act.put, List.setIfInBounds_toArray, List.set_cons_zero, List.set_cons_succ]
              refine btakeE 2 [] (oi := _) (v := ?_) (by simp only [List.getElem?_toArray, List.getElem?_cons_succ, List.getElem?_cons_zero]; rfl) (by kernel_rfl) (by exact fun _ _ _ h => h) (by first | assumption | exact KB.refl _) (.inl ⟨by rfl, fun W hW => ?_⟩) ?_; rotate_left
              · (go_simp; first | done | with_reducible rfl)
              try simp only [Act.put, List.setIfInBounds_toArray, List.set_cons_zero, List.set_cons_succ]
              refine btakeE 3 [] (oi := _) (v := ?_) (by simp only [List.getElem?_toArray, List.getElem?_cons_succ, List.getElem?_cons_zero]; rfl) (by kernel_rfl) (by exact fun _ _ _ h => h) (by first | assumption | exact KB.refl _) (.inl ⟨by rfl, fun W hW => ?_⟩) ?_; rotate_left
              · (go_simp; first | done | with_reducible rfl)
              try simp only [Act.put, List.setIfInBounds_toArray, List.set_cons_zero, List.set_cons_succ]
              refine btakeE 4 [] (oi := _) (v := ?_) (by simp only [List.getElem?_toArray, List.getElem?_cons_succ, List.getElem?_cons_zero]; rfl) (by kernel_rfl) (by exact fun _ _ _ h => h) (by first | assumption | exact KB.refl _) (.inl ⟨by rfl, fun W hW => ?_⟩) ?_; rotate_left
              · (go_simp; first | done | with_reducible rfl)
              try simp only [Act.put, List.setIfInBounds_toArray, List.set_cons_zero, List.set_cons_succ]
              refine btakeE 5 [] (oi := _) (v := ?_) (by simp only [List.getElem?_toArray, List.getElem?_cons_succ, List.getElem?_cons_zero]; rfl) (by kernel_rfl) (by exact fun _ _ _ h => h) (by first | assumption | exact KB.refl _) (.inl ⟨by rfl, fun W hW => ?_⟩) ?_; rotate_left
              · refine Eq.trans (ex_ld32 (us := bv x.l) (by rfl) (by rfl) hW.1 H32.out) ?_
                with_reducible rfl
              try simp only [Act.put, List.setIfInBounds_toArray, List.set_cons_zero, List.set_cons_succ]
              refine btakeE 6 [] (oi := _) (v := ?_) (by simp only [List.getElem?_toArray, List.getElem?_cons_succ, List.getElem?_cons_zero]; rfl) (by kernel_rfl) (by exact fun _ _ _ h => h) (by first | assumption | exact KB.refl _) (.inl ⟨by rfl, fun W hW => ?_⟩) ?_; rotate_left
              · (go_simp; first | done | with_reducible rfl)
              try simp only [Act.put, List.setIfInBounds_toArray, List.set_cons_zero, List.set_cons_succ]
              refine btakeE 7 [] (oi := _) (v := ?_) (by simp only [List.getElem?_toArray, List.getElem?_cons_succ, List.getElem?_cons_zero]; rfl) (by kernel_rfl) (by exact fun _ _ _ h => h) (by first | assumption | exact KB.refl _) (.inl ⟨by rfl, fun W hW => ?_⟩) ?_; rotate_left
              · (go_simp; first | done | with_reducible rfl)
              try simp only [Act.put, List.setIfInBounds_toArray, List.set_cons_zero, List.set_cons_succ]
              refine btakeE 8 [] (oi := _) (v := ?_) (by simp only [List.getElem?_toArray, List.getElem?_cons_succ, List.getElem?_cons_zero]; rfl) (by kernel_rfl) (by exact fun _ _ _ h => h) (by first | assumption | exact KB.refl _) (.inl ⟨by rfl, fun W hW => ?_⟩) ?_; rotate_left
              · refine Eq.trans (ex_bldT (by rfl) (by simp only [List.map_toArray, List.map_cons, List.map_nil]; rfl) (flag_built x sp sl sr true)) ?_
                with_reducible rfl
              try simp only [Act.put, List.setIfInBounds_toArray, List.set_cons_zero, List.set_cons_succ]
              refine btakeE 9 [] (oi := _) (v := ?_) (by simp only [List.getElem?_toArray, List.getElem?_cons_succ, List.getElem?_cons_zero]; rfl) (by kernel_rfl) (by exact fun _ _ _ h => h) (by first | assumption | exact KB.refl _) (.inl ⟨by rfl, fun W hW => ?_⟩) ?_; rotate_left
              · (go_simp; first | done | with_reducible rfl)
              try simp only [Act.put, List.setIfInBounds_toArray, List.set_cons_zero, List.set_cons_succ]
              -- 10: Op.store 72 (Operand.tmp 81) (Operand.tmp 80)
              refine blastE 10 (o := _) (by simp only [List.getElem?_toArray, List.getElem?_cons_succ, List.getElem?_cons_zero]; rfl) (by kernel_rfl) (by rfl) (by rfl) (fun K hK => ?_)
              refine wpSkip (EF.ex_set (by rfl) (ET.Row.below H7.out.2.2.2.2.1 ((Below.refl _ w7).drew)) (by rw [HP.out.2]; exact hkl) (x, ⟨⟨sp, sl, sr⟩, true⟩) (by rfl) (by rfl)) ?_
              refine hK.out _ _ ?_; clear hK K
              try simp only [Act.put]
              refine bdoneE (by kernel_rfl) ?_
              clear hS0 e0 e1 e2 e4
              go_wp2_with fail
              go_ret2
              exact ⟨by rw [← HRT.out, HTD.out]; rfl, dput_set HF.out H7.out.2.2.1.drew (by rw [HP.out.2]; exact H7.out.2.2.2.1) H7.out.2.2.2.2.1 HR.out.2.2.1 HR.out.2.2.2.1 (by rw [HP.out.2]; exact HR.out.2.2.2.2.1) HR.out.2.2.2.2.2 (by rw [HP.out.2]; exact hkl) HS.out⟩
end Go.Proofs.Ytjijhmeagjhfoaa

