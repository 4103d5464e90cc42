/- Disks: the program's first. -/
import Derived.Lib.SliceRun
import Derived.Test.YthnbnhlfiehihaaM03
namespace Go.Proofs.Ythnbnhlfiehihaa
open Go.RowKit Go.Maps
set_option maxRecDepth 20000

/-- a file whose bytes lie in a block that is new since w -/
def FrV (w w' : World) (v : FV) : Prop := Sl w' w'.heap.size (adr v.g) (bv v.f.b) ∧ v.f.b.length ≤ v.c ∧ v.c ≤ maxLen ∧ (v.f.b = [] ∨ ∃ q, v.g = some q ∧ w.heap.size ≤ q.1 ∧ q.1 < w'.heap.size)
def HN (H : Nat → Prop) (w w' : World) (k : Nat) : Prop := H k ∨ (w.heap.size ≤ k ∧ k < w'.heap.size)
theorem FrV.fv {w w' : World} {v : FV} (h : FrV w w' v) {F H : Nat → Prop} (hF : ∀ k, F k → k < w.heap.size) : FVat w' F (HN H w w') v := by
  obtain ⟨h1, h2, h3, h4⟩ := h
  refine ⟨h1, h2, h3, ?_⟩
  rcases h4 with h4 | ⟨q, hq, h5, h6⟩
  · exact .inl h4
  · exact .inr ⟨q, hq, .inr ⟨h5, h6⟩, fun hk => absurd (hF _ hk) (by omega)⟩
theorem FrV.below {w w' w'' : World} {v : FV} (h : FrV w w' v) (hb : Below w'.heap.size w' w'') : FrV w w'' v := by
  obtain ⟨h1, h2, h3, h4⟩ := h
  refine ⟨(h1.below hb).more hb.size, h2, h3, ?_⟩
  rcases h4 with h4 | ⟨q, hq, h5, h6⟩
  · exact .inl h4
  · exact .inr ⟨q, hq, h5, Nat.lt_of_lt_of_le h6 hb.size⟩
theorem FrV.grew {S : Nat → Prop} {w w' w'' : World} {v : FV} (h : FrV w w' v) (hg : Grew S w' w'') (hS : ∀ k, S k → k < w.heap.size) : FrV w w'' v := by
  obtain ⟨h1, h2, h3, h4⟩ := h
  rcases h4 with h4 | ⟨q, hq, h5, h6⟩
  · exact ⟨.inl (by rw [h4]; rfl), h2, h3, .inl h4⟩
  · refine ⟨?_, h2, h3, .inr ⟨q, hq, h5, Nat.lt_of_lt_of_le h6 hg.size⟩⟩
    rw [hq] at h1 ⊢
    exact (Sl.grewN h1 hg (fun hk => by have := hS _ hk; omega)).more hg.size
theorem FrV.from {w0 w w' : World} {v : FV} (h : FrV w w' v) (hs : w0.heap.size ≤ w.heap.size) : FrV w0 w' v := by
  obtain ⟨h1, h2, h3, h4⟩ := h
  refine ⟨h1, h2, h3, ?_⟩
  rcases h4 with h4 | ⟨q, hq, h5, h6⟩
  · exact .inl h4
  · exact .inr ⟨q, hq, Nat.le_trans hs h5, h6⟩
theorem FrV.of {w w' : World} {A : Option Addr} {c : Nat} {l : List UInt8} (h : OwnB w' w.heap.size (.slice A l.length c) l) (s : Nat) : ∃ g, A = adr g ∧ FrV w w' ⟨⟨l, s⟩, g, c⟩ := by
  obtain ⟨A', c', e, h1, h2, h3, h4, h5⟩ := h.form
  injection e with e1 _ e2
  subst e1; subst e2
  cases A with
  | none =>
    have := h4 rfl
    subst this
    exact ⟨none, rfl, .inl rfl, h1, h2, .inl rfl⟩
  | some a =>
    obtain ⟨k1, k2, k3⟩ := h5 a rfl
    obtain ⟨b, o, sp⟩ := a
    dsimp only at k1 k2 k3
    subst k2; subst k3
    refine ⟨some (b, 0), rfl, h3, h1, h2, ?_⟩
    rcases h3 with h3 | ⟨b', o', e', _, hlt, _⟩
    · exact .inl (by simpa [bv] using h3)
    · injection e' with e'
      injection e' with e1 e2
      subst e1
      exact .inr ⟨(b, 0), rfl, k1, hlt⟩
theorem clr {w : World} {base g c l n : Nat} {b : List UInt8} (h : OwnB w base (.slice (some ⟨g, 0, none⟩) l c) b) (hl : b.length = l) (hn : n < l) :
    (Builtin.clear_ #[22] 0 #[.slice (Option.map (fun x : Addr => x.add n) (some ⟨g, 0, none⟩)) (l - n) (c - n)]).run Try.prog w = .ok (.tuple #[]) (w.setCells g n (List.replicate (l - n) (.int .u8 0))) ∧
    Sl (w.setCells g n (List.replicate (l - n) (.int .u8 0))) (w.setCells g n (List.replicate (l - n) (.int .u8 0))).heap.size (some ⟨g, 0, none⟩) (bv (b.take n)) := by
  subst hl
  obtain ⟨g', cap, e, _, hgl, _, _⟩ := h.head (by omega)
  injection e with e _ _
  injection e with e
  injection e with e _
  subst e
  have hz : ∀ w : World, (zeroValue 5).run Try.prog w = .ok (.int .u8 0) w := fun w => by
    have hi := u8info
    cases h : Try.prog.info? 5 with
    | none => rw [h] at hi; cases hi
    | some i => rw [h] at hi; simp only [Option.map_some, Option.some.injEq, Prod.mk.injEq] at hi; simp [zeroValue, typeInfo, h, hi.1]
  have e : Option.map (fun x : Addr => x.add n) (some ⟨g, 0, none⟩) = some ⟨g, n, none⟩ := by rw [Option.map_some, addr0]
  rw [e]
  refine ⟨Lib.run_clear_slice w _ _ 0 (.int .u8 0) Try.underlying22 hz rfl rfl g n (b.length - n) (c - n) (by omega) (fun j hj => ?_) (fun j _ => World.ownsRow.frozenAt h _), .inr ⟨g, 0, rfl, by rw [setCells_size]; exact hgl, by rw [setCells_size]; exact hgl, fun j u hu => ?_⟩⟩
  · have := World.ownsRow.cellAt h (n + j) (by omega)
    rw [this]
    rw [bv_get b (n + j) (by omega)]
    rfl
  · have hj : j < n := by have := (List.getElem?_eq_some_iff.1 hu).1; rw [bv_len, List.length_take] at this; omega
    rw [World.cell?_setCells_out g _ n w _ (fun _ _ => .inl (by show 0 + j < n; omega))]
    have := World.ownsRow.cellAt h j (by omega)
    rw [Nat.zero_add]
    rw [this]
    rw [← bv_take, List.getElem?_take, if_pos hj] at hu
    exact hu
theorem below_setCellsB {B : Nat} {a : World} (b : Nat) (hb : B ≤ b) : ∀ (vs : List Value) (o : Nat) {w : World}, Below B a w → Below B a (w.setCells b o vs)
  | [], _, _, h => h
  | v :: vs, o, _, h => below_setCellsB b hb vs (o + 1) (h.setCell hb v)
set_option maxRecDepth 100000 in
set_option maxHeartbeats 1600000 in
theorem first_any (w : World) (A : Option Addr) (c s n l : Nat) (b : List UInt8) (hl : b.length = l) (hS : Sl w w.heap.size A (bv b)) (hn : n ≤ l) (hm : l ≤ 16777216) :
    Calls Try.prog 34 #[.agg #[.slice A l c, .int .i64 (s : Int)], .int .i64 (n : Int)] w fun e w' => ∃ g, e = .returned (.agg #[.slice (adr g) n n, .int .i64 ((min s n : Nat) : Int)]) ∧ FrV w w' ⟨⟨b.take n, min s n⟩, g, n⟩ ∧ Below w.heap.size w w' := by
  have hb1 : Below w.heap.size w ((w.alloc (.cells #[.slice A l c, .int .i64 (s : Int)] 59)).alloc (.cells #[.slice none 0 0, .int .i64 0] 59)) := ((Below.refl _ w).alloc (Nat.le_refl _) _).alloc (by simp) _
  have hS1 := (hS.below' hb1).more hb1.size
  have hC := fun W (hs : Sl W W.heap.size A (bv b)) => Clone_any W W.heap.size A l c b hs hl.symm (by omega)
  rcases Nat.lt_or_eq_of_le hn with hlt | rfl
  · go_enter Try.func34, Try.ntmps34
    go_wp2_with (go_at_call 32; refine (hC _ hS1).mono ?_; rintro e w2 ⟨A2, c2, rfl, hown, hb2⟩; rw [hl] at hown ⊢; obtain ⟨g, cap, e, hgb, hgl, hlc, hcm⟩ := hown.head (by omega); injection e with e1 e2 e3; subst e3; clear e2; rw [hl] at hlc; have hne : ¬ c2 = n := (by omega); have hnc : n ≤ c2 := (by omega); have hq := clr (e1 ▸ hown) hl hlt; rw [← e1] at hq; have hbz := below_setCellsB g hgb (List.replicate (l - n) (.int .u8 0)) n hb2; have hglz := (setCells_size (List.replicate (l - n) (.int .u8 0)) n w2 g).symm ▸ hgl; obtain ⟨w3, hw3⟩ : ∃ w3, w2.setCells g n (List.replicate (l - n) (.int .u8 0)) = w3 := ⟨_, rfl⟩; rw [hw3] at hq hbz hglz; have hq1 := hq.1; have HQ := Lib.hid (And.intro hq.2 (And.intro e1 (And.intro hglz hgb))); have HB := Lib.hid hbz; clear hq e1 hglz hbz hw3 hgb hgl hown hb2 hlc hcm)
    have hb3 := HB.out
    have HV := Lib.hid (show ∃ g', A2 = adr g' ∧ FrV ((w.alloc (.cells #[.slice A l c, .int .i64 (s : Int)] 59)).alloc (.cells #[.slice none 0 0, .int .i64 0] 59)) w3 ⟨⟨b.take n, min s n⟩, g', n⟩ from
      ⟨some (g, 0), HQ.out.2.1, (by have h := HQ.out.1; rw [HQ.out.2.1] at h; exact h), by simp; omega, by simp only [maxLen]; omega, .inr ⟨(g, 0), rfl, HQ.out.2.2.2, HQ.out.2.2.1⟩⟩)
    clear hq1 HB HQ
    have hk1 := (At.new w 59 #[.slice A l c, .int .i64 (s : Int)]).below (((Below.refl _ _).alloc (Nat.le_refl _) (.cells #[.slice none 0 0, .int .i64 0] 59)).trans (hb3.mono (by simp)))
    have hk2 := (At.new (w.alloc (.cells #[.slice A l c, .int .i64 (s : Int)] 59)) 59 #[.slice none 0 0, .int .i64 0]).below hb3
    rw [World.size_alloc] at hk2
    have hb4 : Below w.heap.size w w3 := hb1.trans (hb3.mono hb1.size)
    have e1 := hk1.e 1 rfl
    have z0 := hk2.c 0 rfl
    have z1 := hk2.c 1 rfl
    have f0 := hk2.f 0 rfl
    have f1 := hk2.f 1 rfl
    have HK := Lib.hid hk2
    clear hk1 hk2 hb3 hb1 hS hS1 hC
    have hS0 : KB w3.heap w3.drew := KB.refl _
    refine bstartE (KB w3.heap) 9 (by kernel_rfl) ?_
    refine btakeE 0 [] (oi := _) (v := ?_) (by simp only [List.getElem?_toArray, List.getElem?_cons_zero]; rfl) (by kernel_rfl) (by exact fun _ _ _ h => h) (by first | assumption | exact KB.refl _) (.inl ⟨by rfl, fun W hW => ?_⟩) ?_; rotate_left
    · (go_simp; first | done | with_reducible rfl)
    try simp only [Act.put, List.setIfInBounds_toArray, List.set_cons_zero, List.set_cons_succ]
    refine btakeE 1 [] (oi := _) (v := ?_) (by simp only [List.getElem?_toArray, List.getElem?_cons_succ, List.getElem?_cons_zero]; rfl) (by kernel_rfl) (by exact fun _ _ _ h => h) (by first | assumption | exact KB.refl _) (.inl ⟨by rfl, fun W hW => ?_⟩) ?_; rotate_left
    · (go_simp; first | done | with_reducible rfl)
    try simp only [Act.put, List.setIfInBounds_toArray, List.set_cons_zero, List.set_cons_succ]
    refine btakeE 2 [] (oi := _) (v := ?_) (by simp only [List.getElem?_toArray, List.getElem?_cons_succ, List.getElem?_cons_zero]; rfl) (by kernel_rfl) (by exact fun _ _ _ h => h) (by first | assumption | exact KB.refl _) (.inl ⟨by rfl, fun W hW => ?_⟩) ?_; rotate_left
    · (go_simp; first | done | with_reducible rfl)
    try simp only [Act.put, List.setIfInBounds_toArray, List.set_cons_zero, List.set_cons_succ]
    refine btakeE 3 [] (oi := _) (v := ?_) (by simp only [List.getElem?_toArray, List.getElem?_cons_succ, List.getElem?_cons_zero]; rfl) (by kernel_rfl) (by exact fun _ _ _ h => h) (by first | assumption | exact KB.refl _) (.inl ⟨by rfl, fun W hW => ?_⟩) ?_; rotate_left
    · (go_simp; first | done | with_reducible rfl)
    try simp only [Act.put, List.setIfInBounds_toArray, List.set_cons_zero, List.set_cons_succ]
    refine btakeE 4 [] (oi := _) (v := ?_) (by simp only [List.getElem?_toArray, List.getElem?_cons_succ, List.getElem?_cons_zero]; rfl) (by kernel_rfl) (by exact fun _ _ _ h => h) (by first | assumption | exact KB.refl _) (.inl ⟨by rfl, fun W hW => ?_⟩) ?_; rotate_left
    · (go_simp; first | done | with_reducible rfl)
    try simp only [Act.put, List.setIfInBounds_toArray, List.set_cons_zero, List.set_cons_succ]
    refine btakeE 5 [] (oi := _) (v := ?_) (by simp only [List.getElem?_toArray, List.getElem?_cons_succ, List.getElem?_cons_zero]; rfl) (by kernel_rfl) (by exact fun _ _ _ h => h) (by first | assumption | exact KB.refl _) (.inl ⟨by rfl, fun W hW => ?_⟩) ?_; rotate_left
    · (go_simp; first | done | with_reducible rfl)
    try simp only [Act.put, List.setIfInBounds_toArray, List.set_cons_zero, List.set_cons_succ]
    refine btakeE 6 [] (oi := _) (v := ?_) (by simp only [List.getElem?_toArray, List.getElem?_cons_succ, List.getElem?_cons_zero]; rfl) (by kernel_rfl) (by exact fun _ _ _ h => h) (by first | assumption | exact KB.refl _) (.inl ⟨by rfl, fun W hW => ?_⟩) ?_; rotate_left
    · (go_simp; first | done | with_reducible rfl)
    try simp only [Act.put, List.setIfInBounds_toArray, List.set_cons_zero, List.set_cons_succ]
    refine btakeE 7 [] (oi := _) (v := ?_) (by simp only [List.getElem?_toArray, List.getElem?_cons_succ, List.getElem?_cons_zero]; rfl) (by kernel_rfl) (by exact fun _ _ _ h => h) (by first | assumption | exact KB.refl _) (.inl ⟨by rfl, fun W hW => ?_⟩) ?_; rotate_left
    · (go_simp; first | done | with_reducible rfl)
    try simp only [Act.put, List.setIfInBounds_toArray, List.set_cons_zero, List.set_cons_succ]
    refine btakeE 8 [] (oi := _) (v := ?_) (by simp only [List.getElem?_toArray, List.getElem?_cons_succ, List.getElem?_cons_zero]; rfl) (by kernel_rfl) (by exact fun _ _ _ h => h) (by first | assumption | exact KB.refl _) (.inl ⟨by rfl, fun W hW => ?_⟩) ?_; rotate_left
    · (go_simp; first | done | with_reducible rfl)
    try simp only [Act.put, List.setIfInBounds_toArray, List.set_cons_zero, List.set_cons_succ]
    -- 9: Op.store 59 (Operand.tmp 4) (Operand.tmp 20)
    refine blastE 9 (o := _) (by simp only [List.getElem?_toArray, List.getElem?_cons_succ, List.getElem?_cons_zero]; rfl) (by kernel_rfl) (by rfl) (by rfl) (fun K hK => ?_)
    go_simp
    skip
    refine hK.out _ _ ?_; clear hK K
    try simp only [Act.put, List.setIfInBounds_toArray, List.set_cons_zero, List.set_cons_succ]
    refine bdoneE (by kernel_rfl) ?_
    have hmin : (if n < s then (n : Int) else (s : Int)) = ((min s n : Nat) : Int) := by split <;> omega
    rw [hmin]
    have hK5 := ((HK.out.set 0 (.slice A2 n n) (by simp)).set 1 (.int .i64 ((min s n : Nat) : Int)) (by simp)).drew
    have hg5 : Grew (fun k => k = w.heap.size + 1) w3 ((w3.setCell ⟨w.heap.size + 1, 0, none⟩ (.slice A2 n n)).setCell ⟨w.heap.size + 1, 1, none⟩ (.int .i64 ((min s n : Nat) : Int))).drew := (((Grew.refl _ w3).putP _).putP _).drew
    have hb5 : Below w.heap.size w ((w3.setCell ⟨w.heap.size + 1, 0, none⟩ (.slice A2 n n)).setCell ⟨w.heap.size + 1, 1, none⟩ (.int .i64 ((min s n : Nat) : Int))).drew := ((hb4.setCell (by simp) _).setCell (by simp) _).drew
    obtain ⟨g', hA2, hFr⟩ := HV.out
    have hFr5 := (hFr.grew hg5 (fun k hk => by simp; omega)).from (w0 := w) (by simp; omega)
    clear hg5 hFr z0 z1 f0 f1 e1 hS0
    generalize ((w3.setCell ⟨w.heap.size + 1, 0, none⟩ (.slice A2 n n)).setCell ⟨w.heap.size + 1, 1, none⟩ (.int .i64 ((min s n : Nat) : Int))).drew = w5 at *
    have v0 := hK5.c 0 rfl
    have v1 := hK5.c 1 rfl
    go_wp2_with fail
    exact bodyPost_ret (v := .agg #[.slice A2 n n, .int .i64 ((min s n : Nat) : Int)]) (by simp [results, Try.results34, go_sem, v0, v1]) rfl ⟨g', by rw [hA2], hFr5, hb5⟩
  · have hcl : ∀ (A : Option Addr) (c : Nat) (W : World), (Builtin.clear_ #[22] 0 #[.slice A 0 c]).run Try.prog W = .ok (.tuple #[]) W := fun A c W => by cases A <;> simp [Builtin.clear_, run_underlying Try.underlying22]
    have hnn : n - n = 0 := Nat.sub_self n
    go_enter Try.func34, Try.ntmps34
    go_wp2_with (go_at_call 32; refine (hC _ hS1).mono ?_; rintro e w3 ⟨A2, c2, rfl, hown, hb3⟩; rw [hl] at hown ⊢; have hc2 : n ≤ c2 := (by obtain ⟨_, _, e, h1, _⟩ := hown.form; injection e with _ e1 e2; omega))
    · have hown' : OwnB w3 ((w.alloc (.cells #[.slice A n c, .int .i64 (s : Int)] 59)).alloc (.cells #[.slice none 0 0, .int .i64 0] 59)).heap.size (.slice A2 b.length c2) b := by rw [hl]; exact hown
      have HV := Lib.hid (show ∃ g', A2 = adr g' ∧ FrV ((w.alloc (.cells #[.slice A n c, .int .i64 (s : Int)] 59)).alloc (.cells #[.slice none 0 0, .int .i64 0] 59)) w3 ⟨⟨b.take n, min s n⟩, g', n⟩ from by
        obtain ⟨g', h1, h2⟩ := FrV.of hown' (min s n)
        obtain ⟨k1, k2, k3, k4⟩ := h2
        exact ⟨g', h1, by rw [List.take_of_length_le (Nat.le_of_eq hl)]; exact k1, by simp; omega, by simp only [maxLen]; omega, by rw [List.take_of_length_le (Nat.le_of_eq hl)]; exact k4⟩)
      clear hown hown' hcl hnn
      have hk1 := (At.new w 59 #[.slice A n c, .int .i64 (s : Int)]).below (((Below.refl _ _).alloc (Nat.le_refl _) (.cells #[.slice none 0 0, .int .i64 0] 59)).trans (hb3.mono (by simp)))
      have hk2 := (At.new (w.alloc (.cells #[.slice A n c, .int .i64 (s : Int)] 59)) 59 #[.slice none 0 0, .int .i64 0]).below hb3
      rw [World.size_alloc] at hk2
      have hb4 : Below w.heap.size w w3 := hb1.trans (hb3.mono hb1.size)
      have e1 := hk1.e 1 rfl
      have z0 := hk2.c 0 rfl
      have z1 := hk2.c 1 rfl
      have f0 := hk2.f 0 rfl
      have f1 := hk2.f 1 rfl
      have HK := Lib.hid hk2
      clear hk1 hk2 hb3 hb1 hS hS1 hC
      have hS0 : KB w3.heap w3.drew := KB.refl _
      refine bstartE (KB w3.heap) 9 (by kernel_rfl) ?_
      refine btakeE 0 [] (oi := _) (v := ?_) (by simp only [List.getElem?_toArray, List.getElem?_cons_zero]; rfl) (by kernel_rfl) (by exact fun _ _ _ h => h) (by first | assumption | exact KB.refl _) (.inl ⟨by rfl, fun W hW => ?_⟩) ?_; rotate_left
      · (go_simp; first | done | with_reducible rfl)
      try simp only [Act.put, List.setIfInBounds_toArray, List.set_cons_zero, List.set_cons_succ]
      refine btakeE 1 [] (oi := _) (v := ?_) (by simp only [List.getElem?_toArray, List.getElem?_cons_succ, List.getElem?_cons_zero]; rfl) (by kernel_rfl) (by exact fun _ _ _ h => h) (by first | assumption | exact KB.refl _) (.inl ⟨by rfl, fun W hW => ?_⟩) ?_; rotate_left
      · (go_simp; first | done | with_reducible rfl)
      try simp only [Act.put, List.setIfInBounds_toArray, List.set_cons_zero, List.set_cons_succ]
      refine btakeE 2 [] (oi := _) (v := ?_) (by simp only [List.getElem?_toArray, List.getElem?_cons_succ, List.getElem?_cons_zero]; rfl) (by kernel_rfl) (by exact fun _ _ _ h => h) (by first | assumption | exact KB.refl _) (.inl ⟨by rfl, fun W hW => ?_⟩) ?_; rotate_left
      · (go_simp; first | done | with_reducible rfl)
      try simp only [Act.put, List.setIfInBounds_toArray, List.set_cons_zero, List.set_cons_succ]
      refine btakeE 3 [] (oi := _) (v := ?_) (by simp only [List.getElem?_toArray, List.getElem?_cons_succ, List.getElem?_cons_zero]; rfl) (by kernel_rfl) (by exact fun _ _ _ h => h) (by first | assumption | exact KB.refl _) (.inl ⟨by rfl, fun W hW => ?_⟩) ?_; rotate_left
      · (go_simp; first | done | with_reducible rfl)
      try simp only [Act.put, List.setIfInBounds_toArray, List.set_cons_zero, List.set_cons_succ]
      refine btakeE 4 [] (oi := _) (v := ?_) (by simp only [List.getElem?_toArray, List.getElem?_cons_succ, List.getElem?_cons_zero]; rfl) (by kernel_rfl) (by exact fun _ _ _ h => h) (by first | assumption | exact KB.refl _) (.inl ⟨by rfl, fun W hW => ?_⟩) ?_; rotate_left
      · (go_simp; first | done | with_reducible rfl)
      try simp only [Act.put, List.setIfInBounds_toArray, List.set_cons_zero, List.set_cons_succ]
      refine btakeE 5 [] (oi := _) (v := ?_) (by simp only [List.getElem?_toArray, List.getElem?_cons_succ, List.getElem?_cons_zero]; rfl) (by kernel_rfl) (by exact fun _ _ _ h => h) (by first | assumption | exact KB.refl _) (.inl ⟨by rfl, fun W hW => ?_⟩) ?_; rotate_left
      · (go_simp; first | done | with_reducible rfl)
      try simp only [Act.put, List.setIfInBounds_toArray, List.set_cons_zero, List.set_cons_succ]
      refine btakeE 6 [] (oi := _) (v := ?_) (by simp only [List.getElem?_toArray, List.getElem?_cons_succ, List.getElem?_cons_zero]; rfl) (by kernel_rfl) (by exact fun _ _ _ h => h) (by first | assumption | exact KB.refl _) (.inl ⟨by rfl, fun W hW => ?_⟩) ?_; rotate_left
      · (go_simp; first | done | with_reducible rfl)
      try simp only [Act.put, List.setIfInBounds_toArray, List.set_cons_zero, List.set_cons_succ]
      refine btakeE 7 [] (oi := _) (v := ?_) (by simp only [List.getElem?_toArray, List.getElem?_cons_succ, List.getElem?_cons_zero]; rfl) (by kernel_rfl) (by exact fun _ _ _ h => h) (by first | assumption | exact KB.refl _) (.inl ⟨by rfl, fun W hW => ?_⟩) ?_; rotate_left
      · (go_simp; first | done | with_reducible rfl)
      try simp only [Act.put, List.setIfInBounds_toArray, List.set_cons_zero, List.set_cons_succ]
      refine btakeE 8 [] (oi := _) (v := ?_) (by simp only [List.getElem?_toArray, List.getElem?_cons_succ, List.getElem?_cons_zero]; rfl) (by kernel_rfl) (by exact fun _ _ _ h => h) (by first | assumption | exact KB.refl _) (.inl ⟨by rfl, fun W hW => ?_⟩) ?_; rotate_left
      · (go_simp; first | done | with_reducible rfl)
      try simp only [Act.put, List.setIfInBounds_toArray, List.set_cons_zero, List.set_cons_succ]
      -- 9: Op.store 59 (Operand.tmp 4) (Operand.tmp 20)
      refine blastE 9 (o := _) (by simp only [List.getElem?_toArray, List.getElem?_cons_succ, List.getElem?_cons_zero]; rfl) (by kernel_rfl) (by rfl) (by rfl) (fun K hK => ?_)
      go_simp
      skip
      refine hK.out _ _ ?_; clear hK K
      try simp only [Act.put, List.setIfInBounds_toArray, List.set_cons_zero, List.set_cons_succ]
      refine bdoneE (by kernel_rfl) ?_
      have hmin : (if n < s then (n : Int) else (s : Int)) = ((min s n : Nat) : Int) := by split <;> omega
      rw [hmin]
      have hK5 := ((HK.out.set 0 (.slice A2 n n) (by simp)).set 1 (.int .i64 ((min s n : Nat) : Int)) (by simp)).drew
      have hg5 : Grew (fun k => k = w.heap.size + 1) w3 ((w3.setCell ⟨w.heap.size + 1, 0, none⟩ (.slice A2 n n)).setCell ⟨w.heap.size + 1, 1, none⟩ (.int .i64 ((min s n : Nat) : Int))).drew := (((Grew.refl _ w3).putP _).putP _).drew
      have hb5 : Below w.heap.size w ((w3.setCell ⟨w.heap.size + 1, 0, none⟩ (.slice A2 n n)).setCell ⟨w.heap.size + 1, 1, none⟩ (.int .i64 ((min s n : Nat) : Int))).drew := ((hb4.setCell (by simp) _).setCell (by simp) _).drew
      obtain ⟨g', hA2, hFr⟩ := HV.out
      have hFr5 := (hFr.grew hg5 (fun k hk => by simp; omega)).from (w0 := w) (by simp; omega)
      clear hg5 hFr z0 z1 f0 f1 e1 hS0
      generalize ((w3.setCell ⟨w.heap.size + 1, 0, none⟩ (.slice A2 n n)).setCell ⟨w.heap.size + 1, 1, none⟩ (.int .i64 ((min s n : Nat) : Int))).drew = w5 at *
      have v0 := hK5.c 0 rfl
      have v1 := hK5.c 1 rfl
      go_wp2_with fail
      exact bodyPost_ret (v := .agg #[.slice A2 n n, .int .i64 ((min s n : Nat) : Int)]) (by simp [results, Try.results34, go_sem, v0, v1]) rfl ⟨g', by rw [hA2], hFr5, hb5⟩
    · have hown' : OwnB w3 ((w.alloc (.cells #[.slice A n c, .int .i64 (s : Int)] 59)).alloc (.cells #[.slice none 0 0, .int .i64 0] 59)).heap.size (.slice A2 b.length c2) b := by rw [hl]; exact hown
      have HV := Lib.hid (show ∃ g', A2 = adr g' ∧ FrV ((w.alloc (.cells #[.slice A n c, .int .i64 (s : Int)] 59)).alloc (.cells #[.slice none 0 0, .int .i64 0] 59)) w3 ⟨⟨b.take n, min s n⟩, g', n⟩ from by
        obtain ⟨g', h1, h2⟩ := FrV.of hown' (min s n)
        obtain ⟨k1, k2, k3, k4⟩ := h2
        exact ⟨g', h1, by rw [List.take_of_length_le (Nat.le_of_eq hl)]; exact k1, by simp; omega, by simp only [maxLen]; omega, by rw [List.take_of_length_le (Nat.le_of_eq hl)]; exact k4⟩)
      clear hown hown' hcl hnn
      have hk1 := (At.new w 59 #[.slice A n c, .int .i64 (s : Int)]).below (((Below.refl _ _).alloc (Nat.le_refl _) (.cells #[.slice none 0 0, .int .i64 0] 59)).trans (hb3.mono (by simp)))
      have hk2 := (At.new (w.alloc (.cells #[.slice A n c, .int .i64 (s : Int)] 59)) 59 #[.slice none 0 0, .int .i64 0]).below hb3
      rw [World.size_alloc] at hk2
      have hb4 : Below w.heap.size w w3 := hb1.trans (hb3.mono hb1.size)
      have e1 := hk1.e 1 rfl
      have z0 := hk2.c 0 rfl
      have z1 := hk2.c 1 rfl
      have f0 := hk2.f 0 rfl
      have f1 := hk2.f 1 rfl
      have HK := Lib.hid hk2
      clear hk1 hk2 hb3 hb1 hS hS1 hC
      have hS0 : KB w3.heap w3.drew := KB.refl _
      refine bstartE (KB w3.heap) 9 (by kernel_rfl) ?_
      refine btakeE 0 [] (oi := _) (v := ?_) (by simp only [List.getElem?_toArray, List.getElem?_cons_zero]; rfl) (by kernel_rfl) (by exact fun _ _ _ h => h) (by first | assumption | exact KB.refl _) (.inl ⟨by rfl, fun W hW => ?_⟩) ?_; rotate_left
      · (go_simp; first | done | with_reducible rfl)
      try simp only [Act.put, List.setIfInBounds_toArray, List.set_cons_zero, List.set_cons_succ]
      refine btakeE 1 [] (oi := _) (v := ?_) (by simp only [List.getElem?_toArray, List.getElem?_cons_succ, List.getElem?_cons_zero]; rfl) (by kernel_rfl) (by exact fun _ _ _ h => h) (by first | assumption | exact KB.refl _) (.inl ⟨by rfl, fun W hW => ?_⟩) ?_; rotate_left
      · (go_simp; first | done | with_reducible rfl)
      try simp only [Act.put, List.setIfInBounds_toArray, List.set_cons_zero, List.set_cons_succ]
      refine btakeE 2 [] (oi := _) (v := ?_) (by simp only [List.getElem?_toArray, List.getElem?_cons_succ, List.getElem?_cons_zero]; rfl) (by kernel_rfl) (by exact fun _ _ _ h => h) (by first | assumption | exact KB.refl _) (.inl ⟨by rfl, fun W hW => ?_⟩) ?_; rotate_left
      · (go_simp; first | done | with_reducible rfl)
      try simp only [Act.put, List.setIfInBounds_toArray, List.set_cons_zero, List.set_cons_succ]
      refine btakeE 3 [] (oi := _) (v := ?_) (by simp only [List.getElem?_toArray, List.getElem?_cons_succ, List.getElem?_cons_zero]; rfl) (by kernel_rfl) (by exact fun _ _ _ h => h) (by first | assumption | exact KB.refl _) (.inl ⟨by rfl, fun W hW => ?_⟩) ?_; rotate_left
      · (go_simp; first | done | with_reducible rfl)
      try simp only [Act.put, List.setIfInBounds_toArray, List.set_cons_zero, List.set_cons_succ]
      refine btakeE 4 [] (oi := _) (v := ?_) (by simp only [List.getElem?_toArray, List.getElem?_cons_succ, List.getElem?_cons_zero]; rfl) (by kernel_rfl) (by exact fun _ _ _ h => h) (by first | assumption | exact KB.refl _) (.inl ⟨by rfl, fun W hW => ?_⟩) ?_; rotate_left
      · (go_simp; first | done | with_reducible rfl)
      try simp only [Act.put, List.setIfInBounds_toArray, List.set_cons_zero, List.set_cons_succ]
      refine btakeE 5 [] (oi := _) (v := ?_) (by simp only [List.getElem?_toArray, List.getElem?_cons_succ, List.getElem?_cons_zero]; rfl) (by kernel_rfl) (by exact fun _ _ _ h => h) (by first | assumption | exact KB.refl _) (.inl ⟨by rfl, fun W hW => ?_⟩) ?_; rotate_left
      · (go_simp; first | done | with_reducible rfl)
      try simp only [Act.put, List.setIfInBounds_toArray, List.set_cons_zero, List.set_cons_succ]
      refine btakeE 6 [] (oi := _) (v := ?_) (by simp only [List.getElem?_toArray, List.getElem?_cons_succ, List.getElem?_cons_zero]; rfl) (by kernel_rfl) (by exact fun _ _ _ h => h) (by first | assumption | exact KB.refl _) (.inl ⟨by rfl, fun W hW => ?_⟩) ?_; rotate_left
      · (go_simp; first | done | with_reducible rfl)
      try simp only [Act.put, List.setIfInBounds_toArray, List.set_cons_zero, List.set_cons_succ]
      refine btakeE 7 [] (oi := _) (v := ?_) (by simp only [List.getElem?_toArray, List.getElem?_cons_succ, List.getElem?_cons_zero]; rfl) (by kernel_rfl) (by exact fun _ _ _ h => h) (by first | assumption | exact KB.refl _) (.inl ⟨by rfl, fun W hW => ?_⟩) ?_; rotate_left
      · (go_simp; first | done | with_reducible rfl)
      try simp only [Act.put, List.setIfInBounds_toArray, List.set_cons_zero, List.set_cons_succ]
      refine btakeE 8 [] (oi := _) (v := ?_) (by simp only [List.getElem?_toArray, List.getElem?_cons_succ, List.getElem?_cons_zero]; rfl) (by kernel_rfl) (by exact fun _ _ _ h => h) (by first | assumption | exact KB.refl _) (.inl ⟨by rfl, fun W hW => ?_⟩) ?_; rotate_left
      · (go_simp; first | done | with_reducible rfl)
      try simp only [Act.put, List.setIfInBounds_toArray, List.set_cons_zero, List.set_cons_succ]
      -- 9: Op.store 59 (Operand.tmp 4) (Operand.tmp 20)
      refine blastE 9 (o := _) (by simp only [List.getElem?_toArray, List.getElem?_cons_succ, List.getElem?_cons_zero]; rfl) (by kernel_rfl) (by rfl) (by rfl) (fun K hK => ?_)
      go_simp
      skip
      refine hK.out _ _ ?_; clear hK K
      try simp only [Act.put, List.setIfInBounds_toArray, List.set_cons_zero, List.set_cons_succ]
      refine bdoneE (by kernel_rfl) ?_
      have hmin : (if n < s then (n : Int) else (s : Int)) = ((min s n : Nat) : Int) := by split <;> omega
      rw [hmin]
      have hK5 := ((HK.out.set 0 (.slice A2 n n) (by simp)).set 1 (.int .i64 ((min s n : Nat) : Int)) (by simp)).drew
      have hg5 : Grew (fun k => k = w.heap.size + 1) w3 ((w3.setCell ⟨w.heap.size + 1, 0, none⟩ (.slice A2 n n)).setCell ⟨w.heap.size + 1, 1, none⟩ (.int .i64 ((min s n : Nat) : Int))).drew := (((Grew.refl _ w3).putP _).putP _).drew
      have hb5 : Below w.heap.size w ((w3.setCell ⟨w.heap.size + 1, 0, none⟩ (.slice A2 n n)).setCell ⟨w.heap.size + 1, 1, none⟩ (.int .i64 ((min s n : Nat) : Int))).drew := ((hb4.setCell (by simp) _).setCell (by simp) _).drew
      obtain ⟨g', hA2, hFr⟩ := HV.out
      have hFr5 := (hFr.grew hg5 (fun k hk => by simp; omega)).from (w0 := w) (by simp; omega)
      clear hg5 hFr z0 z1 f0 f1 e1 hS0
      generalize ((w3.setCell ⟨w.heap.size + 1, 0, none⟩ (.slice A2 n n)).setCell ⟨w.heap.size + 1, 1, none⟩ (.int .i64 ((min s n : Nat) : Int))).drew = w5 at *
      have v0 := hK5.c 0 rfl
      have v1 := hK5.c 1 rfl
      go_wp2_with fail
      exact bodyPost_ret (v := .agg #[.slice A2 n n, .int .i64 ((min s n : Nat) : Int)]) (by simp [results, Try.results34, go_sem, v0, v1]) rfl ⟨g', by rw [hA2], hFr5, hb5⟩
end Go.Proofs.Ythnbnhlfiehihaa
/- Disks: the program's behind. -/
namespace Go.Proofs.Ythnbnhlfiehihaa
open Go.RowKit Go.Maps
set_option maxRecDepth 20000

set_option maxRecDepth 100000 in
set_option maxHeartbeats 1600000 in
theorem behind_any (w : World) (p : Nat) (F H : Nat → Prop) (s : DK) (h : PD w p F H s) (x : Nm) (hx : x.length ≤ maxLen) (A : Option Addr) (c l : Nat) (b : List UInt8) (hl : b.length = l) (hS : Sl w w.heap.size A (bv b)) (h1 : (s.fileOf x).b.length ≤ 16777216) (h2 : l ≤ 16777216) :
    Calls Try.prog 31 #[.pointer (some ⟨p, 0, none⟩), str x, .slice A l c] w fun e w' => ∃ g c', e = .returned (.agg #[.slice (adr g) ((s.fileOf x).b.length + l) c', .int .i64 ((s.fileOf x).s : Int)]) ∧ FrV w w' ⟨(s.fileOf x).behind b, g, c'⟩ ∧ Below w.heap.size w w' := by
  obtain ⟨mb, fg, fc, hA, hlk, _, hfv⟩ := h.tell x hx
  clear h
  generalize s.fileOf x = f at *
  obtain ⟨fb, fs⟩ := f
  obtain ⟨fl, hfl⟩ : ∃ fl, fb.length = fl := ⟨_, rfl⟩
  dsimp only [DF.behind] at hlk h1 ⊢
  rw [hfl] at hlk h1 ⊢
  obtain ⟨fA, hfA⟩ : ∃ fA, adr fg = fA := ⟨_, rfl⟩
  have hfs := hfv.1
  dsimp only at hfs
  rw [hfA] at hlk hfs
  clear hfv hfA
  have c0 := (hA.alloc (.cells #[.slice none 0 0, .int .i64 0] 59)).c 0 rfl
  have hlk1 := hlk (w.alloc (.cells #[.slice none 0 0, .int .i64 0] 59)) (KB.alloc w _)
  have hb1 : Below w.heap.size w ((w.alloc (.cells #[.slice none 0 0, .int .i64 0] 59)).alloc (.cells #[.slice fA fl fc, .int .i64 (fs : Int)] 59)) := ((Below.refl _ w).alloc (Nat.le_refl _) _).alloc (by simp) _
  have hk1 := (At.new w 59 #[.slice none 0 0, .int .i64 0]).alloc (.cells #[.slice fA fl fc, .int .i64 (fs : Int)] 59)
  have hk2 := At.new (w.alloc (.cells #[.slice none 0 0, .int .i64 0] 59)) 59 #[.slice fA fl fc, .int .i64 (fs : Int)]
  rw [World.size_alloc] at hk2
  have HX := Lib.hid (And.intro ((hfs.below' hb1).more hb1.size) ((hS.below' hb1).more hb1.size))
  clear hlk hA hfs hS
  go_enter Try.func31, Try.ntmps31
  go_wp2_with fail
  have hws : ((w.alloc (.cells #[.slice none 0 0, .int .i64 0] 59)).alloc (.cells #[.slice fA fl fc, .int .i64 (fs : Int)] 59)).heap.size = w.heap.size + 2 := by simp
  generalize (w.alloc (.cells #[.slice none 0 0, .int .i64 0] 59)).alloc (.cells #[.slice fA fl fc, .int .i64 (fs : Int)] 59) = w1 at *
  have e0 := hk2.e 0 rfl
  have e1 := hk2.e 1 rfl
  have HK := Lib.hid (And.intro hk1 hb1)
  have HL := Lib.hid (And.intro hl hfl)
  clear hk1 hk2 hb1 c0 hlk1
  have hS0 : KB w1.heap w1.drew := KB.refl _
  refine bstartE (KB w1.heap) 8 (by kernel_rfl) ?_
  refine btakeE 0 [] (oi := _) (v := ?_) (by simp only [List.getElem?_toArray, List.getElem?_cons_zero]; rfl) (by kernel_rfl) (by exact fun _ _ _ h => h) (by first | assumption | exact KB.refl _) (.inl ⟨by rfl, fun W hW => ?_⟩) ?_; rotate_left
  · (go_simp; first | done | with_reducible rfl)
  try simp only [Act.put, List.setIfInBounds_toArray, List.set_cons_zero, List.set_cons_succ]
  refine btakeE 1 [] (oi := _) (v := ?_) (by simp only [List.getElem?_toArray, List.getElem?_cons_succ, List.getElem?_cons_zero]; rfl) (by kernel_rfl) (by exact fun _ _ _ h => h) (by first | assumption | exact KB.refl _) (.inl ⟨by rfl, fun W hW => ?_⟩) ?_; rotate_left
  · (go_simp; first | done | with_reducible rfl)
  try simp only [Act.put, List.setIfInBounds_toArray, List.set_cons_zero, List.set_cons_succ]
  refine btakeE 3 [] (oi := _) (v := ?_) (by simp only [List.getElem?_toArray, List.getElem?_cons_succ, List.getElem?_cons_zero]; rfl) (by kernel_rfl) (by exact fun _ _ _ h => h) (by first | assumption | exact KB.refl _) (.inl ⟨by rfl, fun W hW => ?_⟩) ?_; rotate_left
  · (go_simp; first | done | with_reducible rfl)
  try simp only [Act.put, List.setIfInBounds_toArray, List.set_cons_zero, List.set_cons_succ]
  refine btakeE 5 [] (oi := _) (v := ?_) (by simp only [List.getElem?_toArray, List.getElem?_cons_succ, List.getElem?_cons_zero]; rfl) (by kernel_rfl) (by exact fun _ _ _ h => h) (by first | assumption | exact KB.refl _) (.inl ⟨by rfl, fun W hW => ?_⟩) ?_; rotate_left
  · (go_simp; first | done | with_reducible rfl)
  try simp only [Act.put, List.setIfInBounds_toArray, List.set_cons_zero, List.set_cons_succ]
  refine btakeE 6 [] (oi := _) (v := ?_) (by simp only [List.getElem?_toArray, List.getElem?_cons_succ, List.getElem?_cons_zero]; rfl) (by kernel_rfl) (by exact fun _ _ _ h => h) (by first | assumption | exact KB.refl _) (.inl ⟨by rfl, fun W hW => ?_⟩) ?_; rotate_left
  · (go_simp; first | done | with_reducible rfl)
  try simp only [Act.put, List.setIfInBounds_toArray, List.set_cons_zero, List.set_cons_succ]
  -- 2: bytes.Clone
  refine bopE 2 (o := _) (by simp only [List.getElem?_toArray, List.getElem?_cons_succ, List.getElem?_cons_zero]; rfl) (by kernel_rfl) (by rfl) (fun K hK => ?_)
  go_simp
  refine (Clone_any w1.drew w1.heap.size fA fl fc fb HX.out.1 HL.out.2.symm (by rw [HL.out.2]; omega)).mono ?_
  rintro e w2 ⟨A2, c2, rfl, hown, hb2⟩
  have hb2' : Below w1.heap.size w1 w2 := ⟨hb2.os, hb2.tape, hb2.output, hb2.size, hb2.block⟩
  have hkb : KB w1.heap w2 := KB.of hb2'
  have HO := Lib.hid (And.intro hown hb2')
  clear hown hb2 hb2'
  refine hK.out _ _ hkb ?_; clear hK K
  try simp only [Act.put, List.setIfInBounds_toArray, List.set_cons_zero, List.set_cons_succ]
  -- 4: Op.call { callee := Callee.builtin Builtin.append, args := #[Operand.tmp 16, Operand.tmp 17], argTypes := #[22, 22] }
  refine bopE 4 (o := _) (by simp only [List.getElem?_toArray, List.getElem?_cons_succ, List.getElem?_cons_zero]; rfl) (by kernel_rfl) (by rfl) (fun K hK => ?_)
  refine wp_app (by rfl) HO.out.1 ((HX.out.2.below HO.out.2)) HL.out.1.symm (by rw [HL.out.2]; rfl) (by rfl) (by rw [HL.out.1, HL.out.2]; omega) HO.out.2.size ?_
  intro v3 w3 hown3 hg3 hat3
  have hb3 : Below w1.heap.size w1 w3 := own_below HO.out.2 HO.out.2.size HO.out.1 hg3
  obtain ⟨A3, c3, hv3, _⟩ := hown3.form
  rw [List.length_append, HL.out.1, HL.out.2] at hv3
  subst hv3
  have hkb : KB w1.heap w3 := KB.of hb3
  have hk3 := HK.out.1.below hb3
  have z0 := hk3.c 0 rfl
  have z1 := hk3.c 1 rfl
  have f0 := hk3.f 0 rfl
  have f1 := hk3.f 1 rfl
  have HP := Lib.hid (And.intro hown3 (And.intro hb3 hk3))
  clear hown3 hb3 hk3 hg3 hat3
  refine hK.out _ _ hkb ?_; clear hK K
  try simp only [Act.put, List.setIfInBounds_toArray, List.set_cons_zero, List.set_cons_succ]
  refine btakeE 7 [] (oi := _) (v := ?_) (by simp only [List.getElem?_toArray, List.getElem?_cons_succ, List.getElem?_cons_zero]; rfl) (by kernel_rfl) (by exact fun _ _ _ h => h) (by first | assumption | exact KB.refl _) (.inl ⟨by rfl, fun W hW => ?_⟩) ?_; rotate_left
  · (go_simp; first | done | with_reducible rfl)
  try simp only [Act.put, List.setIfInBounds_toArray, List.set_cons_zero, List.set_cons_succ]
  -- 8: Op.store 59 (Operand.tmp 6) (Operand.tmp 21)
  refine blastE 8 (o := _) (by simp only [List.getElem?_toArray, List.getElem?_cons_succ, List.getElem?_cons_zero]; rfl) (by kernel_rfl) (by rfl) (by rfl) (fun K hK => ?_)
  go_simp
  skip
  refine hK.out _ _ ?_; clear hK K
  try simp only [Act.put, List.setIfInBounds_toArray, List.set_cons_zero, List.set_cons_succ]
  refine bdoneE (by kernel_rfl) ?_
  have hown' : OwnB w3 w1.heap.size (.slice A3 (fb ++ b).length c3) (fb ++ b) := by rw [List.length_append, HL.out.1, HL.out.2]; exact HP.out.1
  obtain ⟨g', hA3, hFr⟩ := FrV.of hown' fs
  have hK5 := (HP.out.2.2.set 0 (.slice A3 (fl + l) c3) (by simp)).set 1 (.int .i64 (fs : Int)) (by simp)
  have hg5 : Grew (fun k => k = w.heap.size) w3 ((w3.setCell ⟨w.heap.size, 0, none⟩ (.slice A3 (fl + l) c3)).setCell ⟨w.heap.size, 1, none⟩ (.int .i64 (fs : Int))) := ((Grew.refl _ w3).putP _).putP _
  have hb5 : Below w.heap.size w ((w3.setCell ⟨w.heap.size, 0, none⟩ (.slice A3 (fl + l) c3)).setCell ⟨w.heap.size, 1, none⟩ (.int .i64 (fs : Int))) := ((HK.out.2.trans (HP.out.2.1.mono HK.out.2.size)).setCell (by simp) _).setCell (by simp) _
  have hFr5 := (hFr.grew hg5 (fun k hk => by rw [hws]; omega)).from (w0 := w) (by rw [hws]; omega)
  clear hg5 hFr z0 z1 f0 f1 e0 e1 hS0
  generalize (w3.setCell ⟨w.heap.size, 0, none⟩ (.slice A3 (fl + l) c3)).setCell ⟨w.heap.size, 1, none⟩ (.int .i64 (fs : Int)) = w5 at *
  have v0 := hK5.c 0 rfl
  have v1 := hK5.c 1 rfl
  go_wp2_with fail
  exact bodyPost_ret (v := .agg #[.slice A3 (fl + l) c3, .int .i64 (fs : Int)]) (by simp [results, Try.results31, go_sem, v0, v1]) rfl ⟨g', c3, by rw [hA3], hFr5, hb5⟩
end Go.Proofs.Ythnbnhlfiehihaa
/- Disks: the program's may, Append. -/
namespace Go.Proofs.Ythnbnhlfiehihaa
open Go.RowKit Go.Maps
set_option maxRecDepth 20000

def mayC (s : DK) (x : Nm) (b : List UInt8) : Nat := if s.has x = false then 31 else if s.roomy x b = false then 33 else 0
set_option maxHeartbeats 1600000 in
theorem may_any (w : World) (p : Nat) (F H : Nat → Prop) (s : DK) (n : Nat) (h : PD w p F H s) (hok : s.ok n) (x : Nm) (hx : x.length ≤ maxLen) (A : Option Addr) (c l : Nat) (b : List UInt8) (hl : b.length = l) (_hm : l ≤ 16777216) :
    Calls Try.prog 30 #[.pointer (some ⟨p, 0, none⟩), str x, .slice A l c] w fun e w' => e = .returned (.int .i64 (mayC s x b : Int)) ∧ Below w.heap.size w w' := by
  have hH := has_any w p F H s h x hx
  obtain ⟨mb, hA, _⟩ := h.box
  have hU := hok.used
  have hR := hok.room
  obtain ⟨is, his⟩ : ∃ is, s.has x = is := ⟨_, rfl⟩
  rw [his] at hH
  cases is with
  | false =>
    have e1 : mayC s x b = 31 := by simp [mayC, his]
    rw [e1]
    clear hA h
    go_enter Try.func30, Try.ntmps30
    go_wp2_with (go_at_call 28; refine hH.mono ?_; rintro e w1 ⟨rfl, hb1⟩)
    go_ret
    exact ⟨rfl, hb1⟩
  | true =>
    obtain ⟨q, hq⟩ : ∃ q, decide (((s.room : Int) - (usedR s.R : Int)) < (l : Int)) = q := ⟨_, rfl⟩
    have e1 : mayC s x b = if q then 33 else 0 := by
      rw [← hq]
      simp only [mayC, DK.roomy, his, hl, Bool.true_and, Bool.true_eq_false, if_false, decide_eq_false_iff_not, decide_eq_true_eq]
      by_cases hc : l ≤ s.room - usedR s.R
      · rw [if_neg (by omega), if_neg (by omega)]
      · rw [if_pos hc, if_pos (by omega)]
    have e2 : decide ((s.room : Int) < (usedR s.R : Int)) = false := by simp; omega
    rw [e1]
    clear e1 h
    generalize usedR s.R = U at *
    generalize s.room = room at *
    go_enter Try.func30, Try.ntmps30
    go_wp2_with (go_at_call 28; refine hH.mono ?_; rintro e w1 ⟨rfl, hb1⟩)
    have hA1 := hA.below hb1
    have e3 := hA1.e 1 rfl
    have e4 := hA1.e 2 rfl
    clear hA hA1 hH
    have hS0 : KB w1.heap w1.drew := KB.refl _
    refine bstartS (KB w1.heap) (by kernel_rfl) ?_
    refine btakeS 0 (oi := _) (v := ?_) (by simp only [List.getElem?_toArray, List.getElem?_cons_zero]; rfl) (by kernel_rfl) (by exact fun _ _ _ h => h) (by first | assumption | exact KB.refl _) (.inl ⟨by rfl, fun W hW => ?_⟩) ?_; rotate_left
    · (go_simp; first | done | with_reducible rfl)
    try simp only [Act.put, List.setIfInBounds_toArray, List.set_cons_zero, List.set_cons_succ]
    refine btakeS 1 (oi := _) (v := ?_) (by simp only [List.getElem?_toArray, List.getElem?_cons_succ, List.getElem?_cons_zero]; rfl) (by kernel_rfl) (by exact fun _ _ _ h => h) (by first | assumption | exact KB.refl _) (.inl ⟨by rfl, fun W hW => ?_⟩) ?_; rotate_left
    · (go_simp; first | done | with_reducible rfl)
    try simp only [Act.put, List.setIfInBounds_toArray, List.set_cons_zero, List.set_cons_succ]
    refine btakeS 2 (oi := _) (v := ?_) (by simp only [List.getElem?_toArray, List.getElem?_cons_succ, List.getElem?_cons_zero]; rfl) (by kernel_rfl) (by exact fun _ _ _ h => h) (by first | assumption | exact KB.refl _) (.inl ⟨by rfl, fun W hW => ?_⟩) ?_; rotate_left
    · (go_simp; first | done | with_reducible rfl)
    try simp only [Act.put, List.setIfInBounds_toArray, List.set_cons_zero, List.set_cons_succ]
    refine btakeS 3 (oi := _) (v := ?_) (by simp only [List.getElem?_toArray, List.getElem?_cons_succ, List.getElem?_cons_zero]; rfl) (by kernel_rfl) (by exact fun _ _ _ h => h) (by first | assumption | exact KB.refl _) (.inl ⟨by rfl, fun W hW => ?_⟩) ?_; rotate_left
    · (go_simp; first | done | with_reducible rfl)
    try simp only [Act.put, List.setIfInBounds_toArray, List.set_cons_zero, List.set_cons_succ]
    refine btakeS 4 (oi := _) (v := ?_) (by simp only [List.getElem?_toArray, List.getElem?_cons_succ, List.getElem?_cons_zero]; rfl) (by kernel_rfl) (by exact fun _ _ _ h => h) (by first | assumption | exact KB.refl _) (.inl ⟨by rfl, fun W hW => ?_⟩) ?_; rotate_left
    · (go_simp; first | done | with_reducible rfl)
    try simp only [Act.put, List.setIfInBounds_toArray, List.set_cons_zero, List.set_cons_succ]
    refine btakeS 5 (oi := _) (v := ?_) (by simp only [List.getElem?_toArray, List.getElem?_cons_succ, List.getElem?_cons_zero]; rfl) (by kernel_rfl) (by exact fun _ _ _ h => h) (by first | assumption | exact KB.refl _) (.inl ⟨by rfl, fun W hW => ?_⟩) ?_; rotate_left
    · (go_simp; first | done | with_reducible rfl)
    try simp only [Act.put, List.setIfInBounds_toArray, List.set_cons_zero, List.set_cons_succ]
    refine btakeS 6 (oi := _) (v := ?_) (by simp only [List.getElem?_toArray, List.getElem?_cons_succ, List.getElem?_cons_zero]; rfl) (by kernel_rfl) (by exact fun _ _ _ h => h) (by first | assumption | exact KB.refl _) (.inl ⟨by rfl, fun W hW => ?_⟩) ?_; rotate_left
    · (go_simp; first | done | with_reducible rfl)
    try simp only [Act.put, List.setIfInBounds_toArray, List.set_cons_zero, List.set_cons_succ]
    refine btakeS 7 (oi := _) (v := ?_) (by simp only [List.getElem?_toArray, List.getElem?_cons_succ, List.getElem?_cons_zero]; rfl) (by kernel_rfl) (by exact fun _ _ _ h => h) (by first | assumption | exact KB.refl _) (.inl ⟨by rfl, fun W hW => ?_⟩) ?_; rotate_left
    · (go_simp; first | done | with_reducible rfl)
    try simp only [Act.put, List.setIfInBounds_toArray, List.set_cons_zero, List.set_cons_succ]
    refine btakeS 8 (oi := _) (v := ?_) (by simp only [List.getElem?_toArray, List.getElem?_cons_succ, List.getElem?_cons_zero]; rfl) (by kernel_rfl) (by exact fun _ _ _ h => h) (by first | assumption | exact KB.refl _) (.inl ⟨by rfl, fun W hW => ?_⟩) ?_; rotate_left
    · (go_simp; first | done | with_reducible rfl)
    try simp only [Act.put, List.setIfInBounds_toArray, List.set_cons_zero, List.set_cons_succ]
    refine btakeS 9 (oi := _) (v := ?_) (by simp only [List.getElem?_toArray, List.getElem?_cons_succ, List.getElem?_cons_zero]; rfl) (by kernel_rfl) (by exact fun _ _ _ h => h) (by first | assumption | exact KB.refl _) (.inl ⟨by rfl, fun W hW => ?_⟩) ?_; rotate_left
    · (go_simp; first | done | with_reducible rfl)
    try simp only [Act.put, List.setIfInBounds_toArray, List.set_cons_zero, List.set_cons_succ]
    refine btakeS 10 (oi := _) (v := ?_) (by simp only [List.getElem?_toArray, List.getElem?_cons_succ, List.getElem?_cons_zero]; rfl) (by kernel_rfl) (by exact fun _ _ _ h => h) (by first | assumption | exact KB.refl _) (.inl ⟨by rfl, fun W hW => ?_⟩) ?_; rotate_left
    · (go_simp; first | done | with_reducible rfl)
    try simp only [Act.put, List.setIfInBounds_toArray, List.set_cons_zero, List.set_cons_succ]
    refine btakeS 11 (oi := _) (v := ?_) (by simp only [List.getElem?_toArray, List.getElem?_cons_succ, List.getElem?_cons_zero]; rfl) (by kernel_rfl) (by exact fun _ _ _ h => h) (by first | assumption | exact KB.refl _) (.inl ⟨by rfl, fun W hW => ?_⟩) ?_; rotate_left
    · (go_simp; first | done | with_reducible rfl)
    try simp only [Act.put, List.setIfInBounds_toArray, List.set_cons_zero, List.set_cons_succ]
    refine btakeS 12 (oi := _) (v := ?_) (by simp only [List.getElem?_toArray, List.getElem?_cons_succ, List.getElem?_cons_zero]; rfl) (by kernel_rfl) (by exact fun _ _ _ h => h) (by first | assumption | exact KB.refl _) (.inl ⟨by rfl, fun W hW => ?_⟩) ?_; rotate_left
    · (go_simp; first | done | with_reducible rfl)
    try simp only [Act.put, List.setIfInBounds_toArray, List.set_cons_zero, List.set_cons_succ]
    refine bdoneS (by kernel_rfl) ?_
    replace hb1 := hb1.drew
    rw [show IntKind.i64.wrap ((room : Int) - (U : Int)) = (room : Int) - (U : Int) from by rw [IntKind.wrap_i64]; omega, hq]
    clear hq
    cases q with
    | false =>
      go_wp2
      go_ret
      exact ⟨rfl, hb1⟩
    | true =>
      go_wp2
      go_ret
      exact ⟨rfl, hb1⟩
theorem FVat.le_add {W : World} {F H H' : Nat → Prop} {v : FV} (h : FVat W F H v) (hH : ∀ k, H k → H' k) : FVat W F H' v := h.mono hH (fun _ _ => id)
theorem pdNew {w W : World} {p : Nat} {F H : Nat → Prop} {s : DK} (h : PD W p F H s) (_hs : w.heap.size ≤ W.heap.size) : PD W p F (HN H w W) s :=
  h.more (fun _ => .inl) (fun k hk => hk.elim (h.lt k) (fun h => h.2))
theorem putN_has {s : DK} {x : Nm} (hb : s.has x = true) (g : DF → DF) : mapR s.R x g = putN s.R x (g (s.fileOf x)) := by
  unfold DK.has at hb
  unfold mapR DK.fileOf
  cases hl : look s.R x with
  | none => rw [hl] at hb; cases hb
  | some f => rfl
theorem power_roomy (s : DK) (x : Nm) (b : List UInt8) : s.power.roomy x b = s.roomy x b := by unfold DK.roomy; rw [power_has, power_R, power_room]
theorem power_mayC (s : DK) (x : Nm) (b : List UInt8) : mayC s.power x b = mayC s x b := by unfold mayC; rw [power_has, power_roomy]
theorem roomy_le {s : DK} {x : Nm} {b : List UInt8} {n : Nat} (hok : s.ok n) (h : s.roomy x b = true) : usedR s.R + b.length ≤ s.room := by
  simp only [DK.roomy, Bool.and_eq_true, decide_eq_true_eq] at h
  have := hok.used
  omega
theorem off_power {s : DK} (h : s.off = true) : s.power = s := by unfold DK.power; rw [if_pos h]
def AppendPost (w : World) (p : Nat) (F H : Nat → Prop) (r : Nat × DK) (e : Ending) (w' : World) : Prop :=
  e = .returned (.int .i64 (r.1 : Int)) ∧ ∃ H' : Nat → Prop, PD w' p F H' r.2 ∧ (∀ k, H' k → H k ∨ w.heap.size ≤ k) ∧ Grew F w w'
set_option maxRecDepth 100000 in
set_option maxHeartbeats 3200000 in
theorem Append_any (w : World) (p : Nat) (F H : Nat → Prop) (s : DK) (n : Nat) (h : PD w p F H s) (hok : s.ok n) (hn : n < 1000000) (x : Nm) (hx : x.length ≤ maxLen) (A : Option Addr) (c l : Nat) (b : List UInt8) (hl : b.length = l) (hm : l ≤ 16777216) (hc : l ≤ c) (hS : Sl w w.heap.size A (bv b)) (hSF : b = [] ∨ ∀ a, A = some a → ¬ F a.block) :
    Calls Try.prog 10 #[.pointer (some ⟨p, 0, none⟩), str x, .slice A l c] w (AppendPost w p F H (s.append x b)) := by
  have hSg : ∀ W, Grew F w W → Sl W W.heap.size A (bv b) := fun W hg => by
    rcases hSF with rfl | hSF
    · exact .inl rfl
    rcases hS with hS | ⟨g, o, rfl, h1, h2, h3⟩
    · exact .inl hS
    · exact (Sl.grewN (.inr ⟨g, o, rfl, h1, h2, h3⟩ : Sl w w.heap.size _ _) hg (hSF _ rfl)).more hg.size
  obtain ⟨q, hq⟩ : ∃ q, s.power.off = q := ⟨_, rfl⟩
  have hP := power_at w p F H s n hq h hok
  obtain ⟨mb, hA, _⟩ := h.box
  have c6 := hA.c 6 rfl
  have hM := fun W hW => may_any W p F H s.power n hW hok.power x hx A c l b hl hm
  obtain ⟨mc, hmc⟩ : ∃ mc, mayC s x b = mc := ⟨_, rfl⟩
  rw [power_mayC, hmc] at hM
  have hk := power_keep s
  cases q with
  | true =>
    obtain ⟨was, hw⟩ : ∃ was, s.off = was := ⟨_, rfl⟩
    rw [hw] at c6
    clear hA
    cases was with
    | true =>
      have e1 : s.append x b = (34, s.power) := by simp [DK.append, hq, hw]
      rw [e1]
      go_enter Try.func10, Try.ntmps10
      go_wp2_with (go_at_call 27; refine hP.mono ?_; rintro e w1 ⟨rfl, hp1, hg1⟩)
      go_ret
      exact ⟨rfl, H, hp1, fun _ => .inl, hg1⟩
    | false =>
      by_cases h0 : mc = 0
      · subst h0
        have hb : s.has x = true := by
          cases hb : s.has x
          · simp [mayC, hb] at hmc
          · rfl
        have hr : s.roomy x b = true := by
          cases hr : s.roomy x b
          · simp [mayC, hb, hr] at hmc
          · rfl
        have e1 : s.append x b = (34, { s.power with R := putN s.power.R x ((s.power.fileOf x).behind (b.take s.keep.toNat)) }) := by
          simp only [DK.append, hq, hw, hr, if_true, and_self, putN_has hb, power_R, power_file, DK.cutK]
        rw [e1]
        have hle := roomy_le hok hr
        have hR := hok.room
        have hol := old_le hok x
        rw [hl] at hle
        replace hol : (s.power.fileOf x).b.length ≤ 16777216 := by rw [power_file]; omega
        have hofl := old_le hok x
        rw [← power_file] at hofl
        have hcl := hok.power.calls
        have hcf := hok.power.files
        have hwr : IntKind.i64.wrap (s.power.calls + 1 - 1) = s.power.calls := by rw [IntKind.wrap_i64]; omega
        go_enter Try.func10, Try.ntmps10
        go_wp2_with (first
          | (go_at_call 27; refine hP.mono ?_; rintro e w1 ⟨rfl, hp1, hg1⟩)
          | (go_at_call 30; refine (hM _ hp1).mono ?_; rintro e w2 ⟨rfl, hb2⟩; have hp2 := hp1.below hb2; have hg2 := hg1.trans (Grew.below hb2) (fun _ _ => id); obtain ⟨mb2, hA2, _⟩ := hp2.box; have c5 := hA2.c 5 rfl; rw [hk] at c5; clear hA2))
        all_goals (
          refine (behind_any w2 p F H s.power hp2 x hx A c _ (b.take s.keep.toNat) (by rw [List.length_take]; omega) (by rw [← bv_take]; exact (hSg w2 hg2).tk _) hol (by omega)).mono ?_
          rintro e w3 ⟨g, c', rfl, hfr, hb3⟩
          have hp3 := pdNew (w := w2) (hp2.below hb3) hb3.size
          have hv3 := hfr.fv (F := F) (H := H) (fun k hk => hp2.lt k (hp2.fh hk))
          go_wp2_with (go_at_call 29; refine (set_at w3 p F (HN H w2 w3) n ⟨(s.power.fileOf x).behind (b.take s.keep.toNat), g, c'⟩ rfl (by simp only [DF.behind, List.length_append, List.length_take]; omega) rfl rfl hp3 hok.power hn hx hv3 (by omega)).mono ?_; rintro e w4 ⟨rfl, hp4, hg4⟩; obtain ⟨mb4, hA4, _⟩ := hp4.box; have c3 : w4.cell? ⟨p, 3, none⟩ = some (.int .i64 (s.power.calls + 1)) := hA4.c 3 rfl; have f3 := hA4.f 3 rfl; clear hA4))
        all_goals (
          go_ret
          obtain ⟨hp5, hg5⟩ := hp4.rebox { s.power with R := putN s.power.R x ((s.power.fileOf x).behind (b.take s.keep.toNat)) } ((Grew.refl _ w4).putP _) (fun mb hA => hA.set 3 (.int .i64 s.power.calls) (by simp [boxP])) rfl
          exact ⟨rfl, HN H w2 w3, hp5, fun k hk => hk.elim .inl (fun h => .inr (Nat.le_trans hg2.size h.1)), ((hg2.trans (Grew.below hb3) (fun _ _ h => h)).trans hg4 (fun _ _ => id)).trans hg5 (fun _ _ => id)⟩)
      · have e1 : s.append x b = (34, s.power) := by
          have hr : ¬ s.roomy x b = true := fun hr => h0 (by
            have hb : s.has x = true := by simp only [DK.roomy, Bool.and_eq_true] at hr; exact hr.1
            rw [← hmc]; simp [mayC, hb, hr])
          simp [DK.append, hq, hw, hr]
        rw [e1]
        have hd : ((mc : Int) == 0) = false := by simp; omega
        go_enter Try.func10, Try.ntmps10
        go_wp2_with (first
          | (go_at_call 27; refine hP.mono ?_; rintro e w1 ⟨rfl, hp1, hg1⟩)
          | (go_at_call 30; refine (hM _ hp1).mono ?_; rintro e w2 ⟨rfl, hb2⟩; have hp2 := hp1.below hb2; have hg2 := hg1.trans (Grew.below hb2) (fun _ _ => id)))
        go_ret
        exact ⟨rfl, H, hp2, fun _ => .inl, hg2⟩
  | false =>
    clear hA
    by_cases h0 : mc = 0
    · subst h0
      have hb : s.has x = true := by
        cases hb : s.has x
        · simp [mayC, hb] at hmc
        · rfl
      have hr : s.roomy x b = true := by
        cases hr : s.roomy x b
        · simp [mayC, hb, hr] at hmc
        · rfl
      have e1 : s.append x b = (0, s.power.lay (putN s.power.R x ((s.power.fileOf x).behind b))) := by
        simp [DK.append, hq, hb, hr, putN_has hb, power_R, power_file]
      rw [e1]
      have hle := roomy_le hok hr
      have hR := hok.room
      have hol := old_le hok x
      rw [hl] at hle
      replace hol : (s.power.fileOf x).b.length ≤ 16777216 := by rw [power_file]; omega
      have hofl := old_le hok x
      rw [← power_file] at hofl
      have hcl := hok.power.calls
      have hcf := hok.power.files
      have hwr : IntKind.i64.wrap (s.power.calls + 1 - 1) = s.power.calls := by rw [IntKind.wrap_i64]; omega
      go_enter Try.func10, Try.ntmps10
      go_wp2_with (first
        | (go_at_call 27; refine hP.mono ?_; rintro e w1 ⟨rfl, hp1, hg1⟩)
        | (go_at_call 30; refine (hM _ hp1).mono ?_; rintro e w2 ⟨rfl, hb2⟩; have hp2 := hp1.below hb2; have hg2 := hg1.trans (Grew.below hb2) (fun _ _ => id)))
      refine (behind_any w2 p F H s.power hp2 x hx A c _ (b) (hl) (hSg w2 hg2) hol (by omega)).mono ?_
      rintro e w3 ⟨g, c', rfl, hfr, hb3⟩
      have hp3 := pdNew (w := w2) (hp2.below hb3) hb3.size
      have hv3 := hfr.fv (F := F) (H := H) (fun k hk => hp2.lt k (hp2.fh hk))
      go_wp2_with (go_at_call 29; refine (set_at w3 p F (HN H w2 w3) n ⟨(s.power.fileOf x).behind (b), g, c'⟩ rfl (by simp only [DF.behind, List.length_append]; omega) rfl rfl hp3 hok.power hn hx hv3 (by omega)).mono ?_; rintro e w4 ⟨rfl, hp4, hg4⟩)
      go_ret
      exact ⟨rfl, HN H w2 w3, hp4, fun k hk => hk.elim .inl (fun h => .inr (Nat.le_trans hg2.size h.1)), (hg2.trans (Grew.below hb3) (fun _ _ h => h)).trans hg4 (fun _ _ => id)⟩
    · have e1 : s.append x b = (mc, s.power) := by
        rw [← hmc]
        cases hb : s.has x
        · simp [DK.append, hq, hb, mayC]
        · cases hr : s.roomy x b
          · simp [DK.append, hq, hb, hr, mayC]
          · exact absurd hmc (by simp [mayC, hb, hr]; omega)
      rw [e1]
      have hd : ((mc : Int) == 0) = false := by simp; omega
      have hd2 : decide ((mc : Int) = 0) = false := by simp; omega
      go_enter Try.func10, Try.ntmps10
      go_wp2_with (first
        | (go_at_call 27; refine hP.mono ?_; rintro e w1 ⟨rfl, hp1, hg1⟩)
        | (go_at_call 30; refine (hM _ hp1).mono ?_; rintro e w2 ⟨rfl, hb2⟩; have hp2 := hp1.below hb2; have hg2 := hg1.trans (Grew.below hb2) (fun _ _ => id)))
      go_ret
      exact ⟨rfl, H, hp2, fun _ => .inl, hg2⟩
end Go.Proofs.Ythnbnhlfiehihaa
/- Disks: the program's Read, Truncate. -/
namespace Go.Proofs.Ythnbnhlfiehihaa
open Go.RowKit Go.Maps
set_option maxRecDepth 20000

def ReadPost (w : World) (r : List UInt8 × Bool) (e : Ending) (w' : World) : Prop :=
  ∃ A c, e = .returned (.tuple #[.slice A r.1.length c, .bool r.2]) ∧ Sl w' w'.heap.size A (bv r.1) ∧ (∀ a, A = some a → w.heap.size ≤ a.block) ∧ Below w.heap.size w w'
theorem Read_any (w : World) (p : Nat) (F H : Nat → Prop) (s : DK) (n : Nat) (h : PD w p F H s) (hok : s.ok n) (x : Nm) (hx : x.length ≤ maxLen) :
    Calls Try.prog 15 #[.pointer (some ⟨p, 0, none⟩), str x] w (ReadPost w (s.read x)) := by
  obtain ⟨mb, hA, _⟩ := h.box
  have c6 := hA.c 6 rfl
  clear hA
  have hol := old_le hok x
  have hU := hok.used
  have hR := hok.room
  obtain ⟨off, ho⟩ : ∃ off, s.off = off := ⟨_, rfl⟩
  rw [ho] at c6
  cases off with
  | true =>
    have e1 : s.read x = ([], false) := by simp [DK.read, ho]
    rw [e1]
    go_enter Try.func15, Try.ntmps15
    go_wp2
    go_ret2
    exact ⟨none, 0, rfl, .inl rfl, (fun a h => (by cases h)), Below.refl _ _⟩
  | false =>
    have hH := has_any w p F H s h x hx
    obtain ⟨b, hb⟩ : ∃ b, s.has x = b := ⟨_, rfl⟩
    rw [hb] at hH
    cases b with
    | false =>
      have e1 : s.read x = ([], false) := by simp [DK.read, hb]
      rw [e1]
      go_enter Try.func15, Try.ntmps15
      go_wp2_with (go_at_call 28; refine hH.mono ?_; rintro e w1 ⟨rfl, hb1⟩)
      go_ret2
      exact ⟨none, 0, rfl, .inl rfl, (fun a h => (by cases h)), hb1⟩
    | true =>
      have e1 : s.read x = ((s.fileOf x).b, true) := by
        unfold DK.has at hb
        simp only [DK.read, DK.has, DK.fileOf, ho]
        cases hl : look s.R x with
        | none => rw [hl] at hb; cases hb
        | some f => simp
      rw [e1]
      obtain ⟨ol, hole⟩ : ∃ ol, (s.fileOf x).b.length = ol := ⟨_, rfl⟩
      obtain ⟨os, hose⟩ : ∃ os, (s.fileOf x).s = os := ⟨_, rfl⟩
      rw [hole] at hol
      have hfd := fld0
      go_enter Try.func15, Try.ntmps15
      go_wp2_with (first
        | (go_at_call 28; refine hH.mono ?_; rintro e w1 ⟨rfl, hb1⟩; obtain ⟨mb, g, c, hA, hlk, _, hfv⟩ := (h.below hb1).tell x hx; replace hlk := hlk w1 (KB.refl _); have c0 := hA.c 0 rfl; clear hA; rw [hole, hose] at hlk)
        | (go_at_call 32; refine (Clone_any w1 w1.heap.size (adr g) ol c (s.fileOf x).b hfv.1 hole.symm (by omega)).mono ?_; rintro e w2 ⟨A2, c2, rfl, hown, hb2⟩))
      go_ret2
      exact ⟨A2, c2, by dsimp only; rw [hole]; rfl, (OwnB.sl hown).1, (fun a h => Nat.le_trans hb1.size (by obtain ⟨A', c', e', _, _, _, _, h5⟩ := hown.form; injection e' with e1 _ _; subst e1; exact (h5 a h).1)), hb1.trans (hb2.mono hb1.size)⟩
set_option maxRecDepth 100000 in
set_option maxHeartbeats 1600000 in
theorem Truncate_any (w : World) (p : Nat) (F H : Nat → Prop) (s : DK) (n : Nat) (h : PD w p F H s) (hok : s.ok n) (hn : n < 1000000) (x : Nm) (hx : x.length ≤ maxLen) (k : Int) (h0 : -9223372036854775808 ≤ k) (h1 : k ≤ 9223372036854775807) :
    Calls Try.prog 43 #[.pointer (some ⟨p, 0, none⟩), str x, .int .i64 k] w (AppendPost w p F H (s.truncate x k)) := by
  obtain ⟨q, hq⟩ : ∃ q, s.power.off = q := ⟨_, rfl⟩
  have hP := power_at w p F H s n hq h hok
  cases q with
  | true =>
    have e1 : s.truncate x k = (34, s.power) := by simp [DK.truncate, hq]
    rw [e1]
    go_enter Try.func43, Try.ntmps43
    go_wp2_with (go_at_call 27; refine hP.mono ?_; rintro e w1 ⟨rfl, hp1, hg1⟩)
    go_ret
    exact ⟨rfl, H, hp1, fun _ => .inl, hg1⟩
  | false =>
    obtain ⟨b, hb⟩ : ∃ b, s.has x = b := ⟨_, rfl⟩
    have hH := fun W hW => has_at W p F H s hb hW hx
    cases b with
    | false =>
      have e1 : s.truncate x k = (31, s.power) := by simp [DK.truncate, hq, hb]
      rw [e1]
      go_enter Try.func43, Try.ntmps43
      go_wp2_with (first
        | (go_at_call 27; refine hP.mono ?_; rintro e w1 ⟨rfl, hp1, hg1⟩)
        | (go_at_call 28; refine (hH _ hp1).mono ?_; rintro e w2 ⟨rfl, hp2, hb2⟩))
      go_ret
      exact ⟨rfl, H, hp2, fun _ => .inl, hg1.trans (Grew.below hb2) (fun _ _ => id)⟩
    | true =>
      have hol := old_le hok.power x
      have hU := hok.power.used
      have hR := hok.power.room
      obtain ⟨ol, hole⟩ : ∃ ol, (s.power.fileOf x).b.length = ol := ⟨_, rfl⟩
      obtain ⟨os, hose⟩ : ∃ os, (s.power.fileOf x).s = os := ⟨_, rfl⟩
      rw [hole] at hol
      have hlen : s.lenOf x = ol := by
        rw [← hole, power_file]; unfold DK.lenOf DK.fileOf; cases look s.R x <;> rfl
      have hfd := fld0
      rcases Int.lt_or_le k 0 with hk | hk
      · have e1 : s.truncate x k = (24, s.power) := by simp [DK.truncate, hq, hb, hk]
        rw [e1]
        have hd : decide (k < 0) = true := by simpa using hk
        go_enter Try.func43, Try.ntmps43
        go_wp2_with (first
          | (go_at_call 27; refine hP.mono ?_; rintro e w1 ⟨rfl, hp1, hg1⟩)
          | (go_at_call 28; refine (hH _ hp1).mono ?_; rintro e w2 ⟨rfl, hp2, hb2⟩; have hg2 := hg1.trans (Grew.below hb2) (fun _ _ => id); obtain ⟨mb, g, c, hA, hlk, _, hfv⟩ := hp2.tell x hx; replace hlk := hlk w2 (KB.refl _); have c0 := hA.c 0 rfl; clear hA; rw [hole, hose] at hlk))
        go_ret
        exact ⟨rfl, H, hp2, fun _ => .inl, hg2⟩
      · have hd : decide (k < 0) = false := by simpa using hk
        obtain ⟨m, rfl⟩ : ∃ m : Nat, k = (m : Int) := ⟨k.toNat, by omega⟩
        by_cases hm : ol < m
        · have e1 : s.truncate x m = (24, s.power) := by simp [DK.truncate, hq, hb, hlen, hm]
          rw [e1]
          have hd2 : decide ((ol : Int) < (m : Int)) = true := by simpa using hm
          go_enter Try.func43, Try.ntmps43
          go_wp2_with (first
            | (go_at_call 27; refine hP.mono ?_; rintro e w1 ⟨rfl, hp1, hg1⟩)
            | (go_at_call 28; refine (hH _ hp1).mono ?_; rintro e w2 ⟨rfl, hp2, hb2⟩; have hg2 := hg1.trans (Grew.below hb2) (fun _ _ => id); obtain ⟨mb, g, c, hA, hlk, _, hfv⟩ := hp2.tell x hx; replace hlk := hlk w2 (KB.refl _); have c0 := hA.c 0 rfl; clear hA; rw [hole, hose] at hlk))
          go_ret
          exact ⟨rfl, H, hp2, fun _ => .inl, hg2⟩
        · have e1 : s.truncate x m = (0, s.power.lay (putN s.power.R x ((s.power.fileOf x).first m))) := by
            have : ¬ ((m : Int) < 0 ∨ (s.lenOf x : Int) < (m : Int)) := by rw [hlen]; omega
            simp only [DK.truncate, hq, hb, Bool.false_eq_true, Bool.true_eq_false, if_false, if_neg this, putN_has hb, power_R, power_file, Int.toNat_natCast]
          rw [e1]
          have hd2 : decide ((ol : Int) < (m : Int)) = false := by simpa using hm
          go_enter Try.func43, Try.ntmps43
          go_wp2_with (first
            | (go_at_call 27; refine hP.mono ?_; rintro e w1 ⟨rfl, hp1, hg1⟩)
            | (go_at_call 28; refine (hH _ hp1).mono ?_; rintro e w2 ⟨rfl, hp2, hb2⟩; have hg2 := hg1.trans (Grew.below hb2) (fun _ _ => id); obtain ⟨mb, g, c, hA, hlk, _, hfv⟩ := hp2.tell x hx; replace hlk := hlk w2 (KB.refl _); have c0 := hA.c 0 rfl; clear hA; rw [hole, hose] at hlk)
            | (go_at_call 34; refine (first_any w2 (adr g) c os m ol (s.power.fileOf x).b hole hfv.1 (by omega) (by omega)).mono ?_; rintro e w3 ⟨g3, rfl, hfr, hb3⟩; have hp3 := pdNew (w := w2) (hp2.below hb3) hb3.size; have hv3 := hfr.fv (F := F) (H := H) (fun k hk => hp2.lt k (hp2.fh hk)))
            | (go_at_call 29; refine (set_at w3 p F (HN H w2 w3) n ⟨(s.power.fileOf x).first m, g3, m⟩ rfl (by simp only [DF.first, List.length_take, hole]; omega) rfl (by simp only [DF.first, hose]) hp3 hok.power hn hx (by rw [DF.first, hose]; exact hv3) (by omega)).mono ?_; rintro e w4 ⟨rfl, hp4, hg4⟩))
          go_ret
          exact ⟨rfl, HN H w2 w3, hp4, fun k hk => hk.elim .inl (fun h => .inr (Nat.le_trans hg2.size h.1)), (hg2.trans (Grew.below hb3) (fun _ _ h => h)).trans hg4 (fun _ _ => id)⟩
end Go.Proofs.Ythnbnhlfiehihaa
