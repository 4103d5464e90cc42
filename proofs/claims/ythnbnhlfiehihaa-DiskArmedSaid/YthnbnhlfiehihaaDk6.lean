/- Disks: the program's first. -/
import Derived.Test.YthnbnhlfiehihaaDk5
import Derived.Lib.SliceRun
namespace Go.Proofs.Ythnbnhlfiehihaa
open Go.RowKit Go.Maps
set_option maxRecDepth 20000

/-- a file whose bytes lie in a block that is new since w -/
def FrV (w w' : World) (v : FV) : Prop := Sl w' w'.heap.size (adr v.g) (bv v.f.b) ∧ v.f.b.length ≤ v.c ∧ v.c ≤ maxLen ∧ (v.f.b = [] ∨ ∃ q, v.g = some q ∧ w.heap.size ≤ q.1 ∧ q.1 < w'.heap.size)
def HN (H : Nat → Prop) (w w' : World) (k : Nat) : Prop := H k ∨ (w.heap.size ≤ k ∧ k < w'.heap.size)
theorem FrV.fv {w w' : World} {v : FV} (h : FrV w w' v) {F H : Nat → Prop} (hF : ∀ k, F k → k < w.heap.size) : FVat w' F (HN H w w') v := by
  obtain ⟨h1, h2, h3, h4⟩ := h
  refine ⟨h1, h2, h3, ?_⟩
  rcases h4 with h4 | ⟨q, hq, h5, h6⟩
  · exact .inl h4
  · exact .inr ⟨q, hq, .inr ⟨h5, h6⟩, fun hk => absurd (hF _ hk) (by omega)⟩
theorem FrV.below {w w' w'' : World} {v : FV} (h : FrV w w' v) (hb : Below w'.heap.size w' w'') : FrV w w'' v := by
  obtain ⟨h1, h2, h3, h4⟩ := h
  refine ⟨(h1.below hb).more hb.size, h2, h3, ?_⟩
  rcases h4 with h4 | ⟨q, hq, h5, h6⟩
  · exact .inl h4
  · exact .inr ⟨q, hq, h5, Nat.lt_of_lt_of_le h6 hb.size⟩
theorem FrV.grew {S : Nat → Prop} {w w' w'' : World} {v : FV} (h : FrV w w' v) (hg : Grew S w' w'') (hS : ∀ k, S k → k < w.heap.size) : FrV w w'' v := by
  obtain ⟨h1, h2, h3, h4⟩ := h
  rcases h4 with h4 | ⟨q, hq, h5, h6⟩
  · exact ⟨.inl (by rw [h4]; rfl), h2, h3, .inl h4⟩
  · refine ⟨?_, h2, h3, .inr ⟨q, hq, h5, Nat.lt_of_lt_of_le h6 hg.size⟩⟩
    rw [hq] at h1 ⊢
    exact (Sl.grewN h1 hg (fun hk => by have := hS _ hk; omega)).more hg.size
theorem FrV.from {w0 w w' : World} {v : FV} (h : FrV w w' v) (hs : w0.heap.size ≤ w.heap.size) : FrV w0 w' v := by
  obtain ⟨h1, h2, h3, h4⟩ := h
  refine ⟨h1, h2, h3, ?_⟩
  rcases h4 with h4 | ⟨q, hq, h5, h6⟩
  · exact .inl h4
  · exact .inr ⟨q, hq, Nat.le_trans hs h5, h6⟩
theorem FrV.of {w w' : World} {A : Option Addr} {c : Nat} {l : List UInt8} (h : OwnB w' w.heap.size (.slice A l.length c) l) (s : Nat) : ∃ g, A = adr g ∧ FrV w w' ⟨⟨l, s⟩, g, c⟩ := by
  obtain ⟨A', c', e, h1, h2, h3, h4, h5⟩ := h.form
  injection e with e1 _ e2
  subst e1; subst e2
  cases A with
  | none =>
    have := h4 rfl
    subst this
    exact ⟨none, rfl, .inl rfl, h1, h2, .inl rfl⟩
  | some a =>
    obtain ⟨k1, k2, k3⟩ := h5 a rfl
    obtain ⟨b, o, sp⟩ := a
    dsimp only at k1 k2 k3
    subst k2; subst k3
    refine ⟨some (b, 0), rfl, h3, h1, h2, ?_⟩
    rcases h3 with h3 | ⟨b', o', e', _, hlt, _⟩
    · exact .inl (by simpa [bv] using h3)
    · injection e' with e'
      injection e' with e1 e2
      subst e1
      exact .inr ⟨(b, 0), rfl, k1, hlt⟩
theorem clr {w : World} {base g c l n : Nat} {b : List UInt8} (h : OwnB w base (.slice (some ⟨g, 0, none⟩) l c) b) (hl : b.length = l) (hn : n < l) :
    (Builtin.clear_ #[22] 0 #[.slice (Option.map (fun x : Addr => x.add n) (some ⟨g, 0, none⟩)) (l - n) (c - n)]).run Try.prog w = .ok (.tuple #[]) (w.setCells g n (List.replicate (l - n) (.int .u8 0))) ∧
    Sl (w.setCells g n (List.replicate (l - n) (.int .u8 0))) (w.setCells g n (List.replicate (l - n) (.int .u8 0))).heap.size (some ⟨g, 0, none⟩) (bv (b.take n)) := by
  subst hl
  obtain ⟨g', cap, e, _, hgl, _, _⟩ := h.head (by omega)
  injection e with e _ _
  injection e with e
  injection e with e _
  subst e
  have hz : ∀ w : World, (zeroValue 5).run Try.prog w = .ok (.int .u8 0) w := fun w => by
    have hi := u8info
    cases h : Try.prog.info? 5 with
    | none => rw [h] at hi; cases hi
    | some i => rw [h] at hi; simp only [Option.map_some, Option.some.injEq, Prod.mk.injEq] at hi; simp [zeroValue, typeInfo, h, hi.1]
  have e : Option.map (fun x : Addr => x.add n) (some ⟨g, 0, none⟩) = some ⟨g, n, none⟩ := by rw [Option.map_some, addr0]
  rw [e]
  refine ⟨Lib.run_clear_slice w _ _ 0 (.int .u8 0) Try.underlying22 hz rfl rfl g n (b.length - n) (c - n) (by omega) (fun j hj => ?_) (fun j _ => World.ownsRow.frozenAt h _), .inr ⟨g, 0, rfl, by rw [setCells_size]; exact hgl, by rw [setCells_size]; exact hgl, fun j u hu => ?_⟩⟩
  · have := World.ownsRow.cellAt h (n + j) (by omega)
    rw [this]
    rw [bv_get b (n + j) (by omega)]
    rfl
  · have hj : j < n := by have := (List.getElem?_eq_some_iff.1 hu).1; rw [bv_len, List.length_take] at this; omega
    rw [World.cell?_setCells_out g _ n w _ (fun _ _ => .inl (by show 0 + j < n; omega))]
    have := World.ownsRow.cellAt h j (by omega)
    rw [Nat.zero_add]
    rw [this]
    rw [← bv_take, List.getElem?_take, if_pos hj] at hu
    exact hu
theorem below_setCellsB {B : Nat} {a : World} (b : Nat) (hb : B ≤ b) : ∀ (vs : List Value) (o : Nat) {w : World}, Below B a w → Below B a (w.setCells b o vs)
  | [], _, _, h => h
  | v :: vs, o, _, h => below_setCellsB b hb vs (o + 1) (h.setCell hb v)
set_option maxRecDepth 100000 in
set_option maxHeartbeats 1600000 in
theorem first_any (w : World) (A : Option Addr) (c s n l : Nat) (b : List UInt8) (hl : b.length = l) (hS : Sl w w.heap.size A (bv b)) (hn : n ≤ l) (hm : l ≤ 16777216) :
    Calls Try.prog 34 #[.agg #[.slice A l c, .int .i64 (s : Int)], .int .i64 (n : Int)] w fun e w' => ∃ g, e = .returned (.agg #[.slice (adr g) n n, .int .i64 ((min s n : Nat) : Int)]) ∧ FrV w w' ⟨⟨b.take n, min s n⟩, g, n⟩ ∧ Below w.heap.size w w' := by
  have hb1 : Below w.heap.size w ((w.alloc (.cells #[.slice A l c, .int .i64 (s : Int)] 59)).alloc (.cells #[.slice none 0 0, .int .i64 0] 59)) := ((Below.refl _ w).alloc (Nat.le_refl _) _).alloc (by simp) _
  have hS1 := (hS.below' hb1).more hb1.size
  have hC := fun W (hs : Sl W W.heap.size A (bv b)) => Clone_any W W.heap.size A l c b hs hl.symm (by omega)
  rcases Nat.lt_or_eq_of_le hn with hlt | rfl
  · go_enter Try.func34, Try.ntmps34
    go_wp2_with (go_at_call 32; refine (hC _ hS1).mono ?_; rintro e w2 ⟨A2, c2, rfl, hown, hb2⟩; rw [hl] at hown ⊢; obtain ⟨g, cap, e, hgb, hgl, hlc, hcm⟩ := hown.head (by omega); injection e with e1 e2 e3; subst e3; clear e2; rw [hl] at hlc; have hne : ¬ c2 = n := (by omega); have hnc : n ≤ c2 := (by omega); have hq := clr (e1 ▸ hown) hl hlt; rw [← e1] at hq; have hbz := below_setCellsB g hgb (List.replicate (l - n) (.int .u8 0)) n hb2; have hglz := (setCells_size (List.replicate (l - n) (.int .u8 0)) n w2 g).symm ▸ hgl; obtain ⟨w3, hw3⟩ : ∃ w3, w2.setCells g n (List.replicate (l - n) (.int .u8 0)) = w3 := ⟨_, rfl⟩; rw [hw3] at hq hbz hglz; have hq1 := hq.1; have HQ := Lib.hid (And.intro hq.2 (And.intro e1 (And.intro hglz hgb))); have HB := Lib.hid hbz; clear hq e1 hglz hbz hw3 hgb hgl hown hb2 hlc hcm)
    have hb3 := HB.out
    have HV := Lib.hid (show ∃ g', A2 = adr g' ∧ FrV ((w.alloc (.cells #[.slice A l c, .int .i64 (s : Int)] 59)).alloc (.cells #[.slice none 0 0, .int .i64 0] 59)) w3 ⟨⟨b.take n, min s n⟩, g', n⟩ from
      ⟨some (g, 0), HQ.out.2.1, (by have h := HQ.out.1; rw [HQ.out.2.1] at h; exact h), by simp; omega, by simp only [maxLen]; omega, .inr ⟨(g, 0), rfl, HQ.out.2.2.2, HQ.out.2.2.1⟩⟩)
    clear hq1 HB HQ
    have hk1 := (At.new w 59 #[.slice A l c, .int .i64 (s : Int)]).below (((Below.refl _ _).alloc (Nat.le_refl _) (.cells #[.slice none 0 0, .int .i64 0] 59)).trans (hb3.mono (by simp)))
    have hk2 := (At.new (w.alloc (.cells #[.slice A l c, .int .i64 (s : Int)] 59)) 59 #[.slice none 0 0, .int .i64 0]).below hb3
    rw [World.size_alloc] at hk2
    have hb4 : Below w.heap.size w w3 := hb1.trans (hb3.mono hb1.size)
    have e1 := hk1.e 1 rfl
    have z0 := hk2.c 0 rfl
    have z1 := hk2.c 1 rfl
    have f0 := hk2.f 0 rfl
    have f1 := hk2.f 1 rfl
    have HK := Lib.hid hk2
    clear hk1 hk2 hb3 hb1 hS hS1 hC
    have hS0 : KB w3.heap w3.drew := KB.refl _
    refine bstartE (KB w3.heap) 9 (by kernel_rfl) ?_
    refine btakeE 0 [] (oi := _) (v := ?_) (by simp only [List.getElem?_toArray, List.getElem?_cons_succ, List.getElem?_cons_zero]; rfl) (by kernel_rfl) (by exact fun _ _ _ h => h) (by first | assumption | exact KB.refl _) (.inl ⟨by rfl, fun W hW => ?_⟩) ?_; rotate_left
    · (go_simp; first | done | with_reducible rfl)
    try simp only [Act.put, List.setIfInBounds_toArray, List.set_cons_zero, List.set_cons_succ]
    refine btakeE 1 [] (oi := _) (v := ?_) (by simp only [List.getElem?_toArray, List.getElem?_cons_succ, List.getElem?_cons_zero]; rfl) (by kernel_rfl) (by exact fun _ _ _ h => h) (by first | assumption | exact KB.refl _) (.inl ⟨by rfl, fun W hW => ?_⟩) ?_; rotate_left
    · (go_simp; first | done | with_reducible rfl)
    try simp only [Act.put, List.setIfInBounds_toArray, List.set_cons_zero, List.set_cons_succ]
    refine btakeE 2 [] (oi := _) (v := ?_) (by simp only [List.getElem?_toArray, List.getElem?_cons_succ, List.getElem?_cons_zero]; rfl) (by kernel_rfl) (by exact fun _ _ _ h => h) (by first | assumption | exact KB.refl _) (.inl ⟨by rfl, fun W hW => ?_⟩) ?_; rotate_left
    · (go_simp; first | done | with_reducible rfl)
    try simp only [Act.put, List.setIfInBounds_toArray, List.set_cons_zero, List.set_cons_succ]
    refine btakeE 3 [] (oi := _) (v := ?_) (by simp only [List.getElem?_toArray, List.getElem?_cons_succ, List.getElem?_cons_zero]; rfl) (by kernel_rfl) (by exact fun _ _ _ h => h) (by first | assumption | exact KB.refl _) (.inl ⟨by rfl, fun W hW => ?_⟩) ?_; rotate_left
    · (go_simp; first | done | with_reducible rfl)
    try simp only [Act.put, List.setIfInBounds_toArray, List.set_cons_zero, List.set_cons_succ]
    refine btakeE 4 [] (oi := _) (v := ?_) (by simp only [List.getElem?_toArray, List.getElem?_cons_succ, List.getElem?_cons_zero]; rfl) (by kernel_rfl) (by exact fun _ _ _ h => h) (by first | assumption | exact KB.refl _) (.inl ⟨by rfl, fun W hW => ?_⟩) ?_; rotate_left
    · (go_simp; first | done | with_reducible rfl)
    try simp only [Act.put, List.setIfInBounds_toArray, List.set_cons_zero, List.set_cons_succ]
    refine btakeE 5 [] (oi := _) (v := ?_) (by simp only [List.getElem?_toArray, List.getElem?_cons_succ, List.getElem?_cons_zero]; rfl) (by kernel_rfl) (by exact fun _ _ _ h => h) (by first | assumption | exact KB.refl _) (.inl ⟨by rfl, fun W hW => ?_⟩) ?_; rotate_left
    · (go_simp; first | done | with_reducible rfl)
    try simp only [Act.put, List.setIfInBounds_toArray, List.set_cons_zero, List.set_cons_succ]
    refine btakeE 6 [] (oi := _) (v := ?_) (by simp only [List.getElem?_toArray, List.getElem?_cons_succ, List.getElem?_cons_zero]; rfl) (by kernel_rfl) (by exact fun _ _ _ h => h) (by first | assumption | exact KB.refl _) (.inl ⟨by rfl, fun W hW => ?_⟩) ?_; rotate_left
    · (go_simp; first | done | with_reducible rfl)
    try simp only [Act.put, List.setIfInBounds_toArray, List.set_cons_zero, List.set_cons_succ]
    refine btakeE 7 [] (oi := _) (v := ?_) (by simp only [List.getElem?_toArray, List.getElem?_cons_succ, List.getElem?_cons_zero]; rfl) (by kernel_rfl) (by exact fun _ _ _ h => h) (by first | assumption | exact KB.refl _) (.inl ⟨by rfl, fun W hW => ?_⟩) ?_; rotate_left
    · (go_simp; first | done | with_reducible rfl)
    try simp only [Act.put, List.setIfInBounds_toArray, List.set_cons_zero, List.set_cons_succ]
    refine btakeE 8 [] (oi := _) (v := ?_) (by simp only [List.getElem?_toArray, List.getElem?_cons_succ, List.getElem?_cons_zero]; rfl) (by kernel_rfl) (by exact fun _ _ _ h => h) (by first | assumption | exact KB.refl _) (.inl ⟨by rfl, fun W hW => ?_⟩) ?_; rotate_left
    · (go_simp; first | done | with_reducible rfl)
    try simp only [Act.put, List.setIfInBounds_toArray, List.set_cons_zero, List.set_cons_succ]
    -- 9: Op.store 59 (Operand.tmp 4) (Operand.tmp 20)
    refine blastE 9 (o := _) (by simp only [List.getElem?_toArray, List.getElem?_cons_succ, List.getElem?_cons_zero]; rfl) (by kernel_rfl) (by rfl) (by rfl) (fun K hK => ?_)
    go_simp
    skip
    refine hK.out _ _ ?_; clear hK K
    try simp only [Act.put, List.setIfInBounds_toArray, List.set_cons_zero, List.set_cons_succ]
    refine bdoneE (by kernel_rfl) ?_
    have hmin : (if n < s then (n : Int) else (s : Int)) = ((min s n : Nat) : Int) := by split <;> omega
    rw [hmin]
    have hK5 := ((HK.out.set 0 (.slice A2 n n) (by simp)).set 1 (.int .i64 ((min s n : Nat) : Int)) (by simp)).drew
    have hg5 : Grew (fun k => k = w.heap.size + 1) w3 ((w3.setCell ⟨w.heap.size + 1, 0, none⟩ (.slice A2 n n)).setCell ⟨w.heap.size + 1, 1, none⟩ (.int .i64 ((min s n : Nat) : Int))).drew := (((Grew.refl _ w3).putP _).putP _).drew
    have hb5 : Below w.heap.size w ((w3.setCell ⟨w.heap.size + 1, 0, none⟩ (.slice A2 n n)).setCell ⟨w.heap.size + 1, 1, none⟩ (.int .i64 ((min s n : Nat) : Int))).drew := ((hb4.setCell (by simp) _).setCell (by simp) _).drew
    obtain ⟨g', hA2, hFr⟩ := HV.out
    have hFr5 := (hFr.grew hg5 (fun k hk => by simp; omega)).from (w0 := w) (by simp; omega)
    clear hg5 hFr z0 z1 f0 f1 e1 hS0
    generalize ((w3.setCell ⟨w.heap.size + 1, 0, none⟩ (.slice A2 n n)).setCell ⟨w.heap.size + 1, 1, none⟩ (.int .i64 ((min s n : Nat) : Int))).drew = w5 at *
    have v0 := hK5.c 0 rfl
    have v1 := hK5.c 1 rfl
    go_wp2_with fail
    exact bodyPost_ret (v := .agg #[.slice A2 n n, .int .i64 ((min s n : Nat) : Int)]) (by simp [results, Try.results34, go_sem, v0, v1]) rfl ⟨g', by rw [hA2], hFr5, hb5⟩
  · have hcl : ∀ (A : Option Addr) (c : Nat) (W : World), (Builtin.clear_ #[22] 0 #[.slice A 0 c]).run Try.prog W = .ok (.tuple #[]) W := fun A c W => by cases A <;> simp [Builtin.clear_, run_underlying Try.underlying22]
    have hnn : n - n = 0 := Nat.sub_self n
    go_enter Try.func34, Try.ntmps34
    go_wp2_with (go_at_call 32; refine (hC _ hS1).mono ?_; rintro e w3 ⟨A2, c2, rfl, hown, hb3⟩; rw [hl] at hown ⊢; have hc2 : n ≤ c2 := (by obtain ⟨_, _, e, h1, _⟩ := hown.form; injection e with _ e1 e2; omega))
    · have hown' : OwnB w3 ((w.alloc (.cells #[.slice A n c, .int .i64 (s : Int)] 59)).alloc (.cells #[.slice none 0 0, .int .i64 0] 59)).heap.size (.slice A2 b.length c2) b := by rw [hl]; exact hown
      have HV := Lib.hid (show ∃ g', A2 = adr g' ∧ FrV ((w.alloc (.cells #[.slice A n c, .int .i64 (s : Int)] 59)).alloc (.cells #[.slice none 0 0, .int .i64 0] 59)) w3 ⟨⟨b.take n, min s n⟩, g', n⟩ from by
        obtain ⟨g', h1, h2⟩ := FrV.of hown' (min s n)
        obtain ⟨k1, k2, k3, k4⟩ := h2
        exact ⟨g', h1, by rw [List.take_of_length_le (Nat.le_of_eq hl)]; exact k1, by simp; omega, by simp only [maxLen]; omega, by rw [List.take_of_length_le (Nat.le_of_eq hl)]; exact k4⟩)
      clear hown hown' hcl hnn
      have hk1 := (At.new w 59 #[.slice A n c, .int .i64 (s : Int)]).below (((Below.refl _ _).alloc (Nat.le_refl _) (.cells #[.slice none 0 0, .int .i64 0] 59)).trans (hb3.mono (by simp)))
      have hk2 := (At.new (w.alloc (.cells #[.slice A n c, .int .i64 (s : Int)] 59)) 59 #[.slice none 0 0, .int .i64 0]).below hb3
      rw [World.size_alloc] at hk2
      have hb4 : Below w.heap.size w w3 := hb1.trans (hb3.mono hb1.size)
      have e1 := hk1.e 1 rfl
      have z0 := hk2.c 0 rfl
      have z1 := hk2.c 1 rfl
      have f0 := hk2.f 0 rfl
      have f1 := hk2.f 1 rfl
      have HK := Lib.hid hk2
      clear hk1 hk2 hb3 hb1 hS hS1 hC
      have hS0 : KB w3.heap w3.drew := KB.refl _
      refine bstartE (KB w3.heap) 9 (by kernel_rfl) ?_
      refine btakeE 0 [] (oi := _) (v := ?_) (by simp only [List.getElem?_toArray, List.getElem?_cons_succ, List.getElem?_cons_zero]; rfl) (by kernel_rfl) (by exact fun _ _ _ h => h) (by first | assumption | exact KB.refl _) (.inl ⟨by rfl, fun W hW => ?_⟩) ?_; rotate_left
      · (go_simp; first | done | with_reducible rfl)
      try simp only [Act.put, List.setIfInBounds_toArray, List.set_cons_zero, List.set_cons_succ]
      refine btakeE 1 [] (oi := _) (v := ?_) (by simp only [List.getElem?_toArray, List.getElem?_cons_succ, List.getElem?_cons_zero]; rfl) (by kernel_rfl) (by exact fun _ _ _ h => h) (by first | assumption | exact KB.refl _) (.inl ⟨by rfl, fun W hW => ?_⟩) ?_; rotate_left
      · (go_simp; first | done | with_reducible rfl)
      try simp only [Act.put, List.setIfInBounds_toArray, List.set_cons_zero, List.set_cons_succ]
      refine btakeE 2 [] (oi := _) (v := ?_) (by simp only [List.getElem?_toArray, List.getElem?_cons_succ, List.getElem?_cons_zero]; rfl) (by kernel_rfl) (by exact fun _ _ _ h => h) (by first | assumption | exact KB.refl _) (.inl ⟨by rfl, fun W hW => ?_⟩) ?_; rotate_left
      · (go_simp; first | done | with_reducible rfl)
      try simp only [Act.put, List.setIfInBounds_toArray, List.set_cons_zero, List.set_cons_succ]
      refine btakeE 3 [] (oi := _) (v := ?_) (by simp only [List.getElem?_toArray, List.getElem?_cons_succ, List.getElem?_cons_zero]; rfl) (by kernel_rfl) (by exact fun _ _ _ h => h) (by first | assumption | exact KB.refl _) (.inl ⟨by rfl, fun W hW => ?_⟩) ?_; rotate_left
      · (go_simp; first | done | with_reducible rfl)
      try simp only [Act.put, List.setIfInBounds_toArray, List.set_cons_zero, List.set_cons_succ]
      refine btakeE 4 [] (oi := _) (v := ?_) (by simp only [List.getElem?_toArray, List.getElem?_cons_succ, List.getElem?_cons_zero]; rfl) (by kernel_rfl) (by exact fun _ _ _ h => h) (by first | assumption | exact KB.refl _) (.inl ⟨by rfl, fun W hW => ?_⟩) ?_; rotate_left
      · (go_simp; first | done | with_reducible rfl)
      try simp only [Act.put, List.setIfInBounds_toArray, List.set_cons_zero, List.set_cons_succ]
      refine btakeE 5 [] (oi := _) (v := ?_) (by simp only [List.getElem?_toArray, List.getElem?_cons_succ, List.getElem?_cons_zero]; rfl) (by kernel_rfl) (by exact fun _ _ _ h => h) (by first | assumption | exact KB.refl _) (.inl ⟨by rfl, fun W hW => ?_⟩) ?_; rotate_left
      · (go_simp; first | done | with_reducible rfl)
      try simp only [Act.put, List.setIfInBounds_toArray, List.set_cons_zero, List.set_cons_succ]
      refine btakeE 6 [] (oi := _) (v := ?_) (by simp only [List.getElem?_toArray, List.getElem?_cons_succ, List.getElem?_cons_zero]; rfl) (by kernel_rfl) (by exact fun _ _ _ h => h) (by first | assumption | exact KB.refl _) (.inl ⟨by rfl, fun W hW => ?_⟩) ?_; rotate_left
      · (go_simp; first | done | with_reducible rfl)
      try simp only [Act.put, List.setIfInBounds_toArray, List.set_cons_zero, List.set_cons_succ]
      refine btakeE 7 [] (oi := _) (v := ?_) (by simp only [List.getElem?_toArray, List.getElem?_cons_succ, List.getElem?_cons_zero]; rfl) (by kernel_rfl) (by exact fun _ _ _ h => h) (by first | assumption | exact KB.refl _) (.inl ⟨by rfl, fun W hW => ?_⟩) ?_; rotate_left
      · (go_simp; first | done | with_reducible rfl)
      try simp only [Act.put, List.setIfInBounds_toArray, List.set_cons_zero, List.set_cons_succ]
      refine btakeE 8 [] (oi := _) (v := ?_) (by simp only [List.getElem?_toArray, List.getElem?_cons_succ, List.getElem?_cons_zero]; rfl) (by kernel_rfl) (by exact fun _ _ _ h => h) (by first | assumption | exact KB.refl _) (.inl ⟨by rfl, fun W hW => ?_⟩) ?_; rotate_left
      · (go_simp; first | done | with_reducible rfl)
      try simp only [Act.put, List.setIfInBounds_toArray, List.set_cons_zero, List.set_cons_succ]
      -- 9: Op.store 59 (Operand.tmp 4) (Operand.tmp 20)
      refine blastE 9 (o := _) (by simp only [List.getElem?_toArray, List.getElem?_cons_succ, List.getElem?_cons_zero]; rfl) (by kernel_rfl) (by rfl) (by rfl) (fun K hK => ?_)
      go_simp
      skip
      refine hK.out _ _ ?_; clear hK K
      try simp only [Act.put, List.setIfInBounds_toArray, List.set_cons_zero, List.set_cons_succ]
      refine bdoneE (by kernel_rfl) ?_
      have hmin : (if n < s then (n : Int) else (s : Int)) = ((min s n : Nat) : Int) := by split <;> omega
      rw [hmin]
      have hK5 := ((HK.out.set 0 (.slice A2 n n) (by simp)).set 1 (.int .i64 ((min s n : Nat) : Int)) (by simp)).drew
      have hg5 : Grew (fun k => k = w.heap.size + 1) w3 ((w3.setCell ⟨w.heap.size + 1, 0, none⟩ (.slice A2 n n)).setCell ⟨w.heap.size + 1, 1, none⟩ (.int .i64 ((min s n : Nat) : Int))).drew := (((Grew.refl _ w3).putP _).putP _).drew
      have hb5 : Below w.heap.size w ((w3.setCell ⟨w.heap.size + 1, 0, none⟩ (.slice A2 n n)).setCell ⟨w.heap.size + 1, 1, none⟩ (.int .i64 ((min s n : Nat) : Int))).drew := ((hb4.setCell (by simp) _).setCell (by simp) _).drew
      obtain ⟨g', hA2, hFr⟩ := HV.out
      have hFr5 := (hFr.grew hg5 (fun k hk => by simp; omega)).from (w0 := w) (by simp; omega)
      clear hg5 hFr z0 z1 f0 f1 e1 hS0
      generalize ((w3.setCell ⟨w.heap.size + 1, 0, none⟩ (.slice A2 n n)).setCell ⟨w.heap.size + 1, 1, none⟩ (.int .i64 ((min s n : Nat) : Int))).drew = w5 at *
      have v0 := hK5.c 0 rfl
      have v1 := hK5.c 1 rfl
      go_wp2_with fail
      exact bodyPost_ret (v := .agg #[.slice A2 n n, .int .i64 ((min s n : Nat) : Int)]) (by simp [results, Try.results34, go_sem, v0, v1]) rfl ⟨g', by rw [hA2], hFr5, hb5⟩
    · have hown' : OwnB w3 ((w.alloc (.cells #[.slice A n c, .int .i64 (s : Int)] 59)).alloc (.cells #[.slice none 0 0, .int .i64 0] 59)).heap.size (.slice A2 b.length c2) b := by rw [hl]; exact hown
      have HV := Lib.hid (show ∃ g', A2 = adr g' ∧ FrV ((w.alloc (.cells #[.slice A n c, .int .i64 (s : Int)] 59)).alloc (.cells #[.slice none 0 0, .int .i64 0] 59)) w3 ⟨⟨b.take n, min s n⟩, g', n⟩ from by
        obtain ⟨g', h1, h2⟩ := FrV.of hown' (min s n)
        obtain ⟨k1, k2, k3, k4⟩ := h2
        exact ⟨g', h1, by rw [List.take_of_length_le (Nat.le_of_eq hl)]; exact k1, by simp; omega, by simp only [maxLen]; omega, by rw [List.take_of_length_le (Nat.le_of_eq hl)]; exact k4⟩)
      clear hown hown' hcl hnn
      have hk1 := (At.new w 59 #[.slice A n c, .int .i64 (s : Int)]).below (((Below.refl _ _).alloc (Nat.le_refl _) (.cells #[.slice none 0 0, .int .i64 0] 59)).trans (hb3.mono (by simp)))
      have hk2 := (At.new (w.alloc (.cells #[.slice A n c, .int .i64 (s : Int)] 59)) 59 #[.slice none 0 0, .int .i64 0]).below hb3
      rw [World.size_alloc] at hk2
      have hb4 : Below w.heap.size w w3 := hb1.trans (hb3.mono hb1.size)
      have e1 := hk1.e 1 rfl
      have z0 := hk2.c 0 rfl
      have z1 := hk2.c 1 rfl
      have f0 := hk2.f 0 rfl
      have f1 := hk2.f 1 rfl
      have HK := Lib.hid hk2
      clear hk1 hk2 hb3 hb1 hS hS1 hC
      have hS0 : KB w3.heap w3.drew := KB.refl _
      refine bstartE (KB w3.heap) 9 (by kernel_rfl) ?_
      refine btakeE 0 [] (oi := _) (v := ?_) (by simp only [List.getElem?_toArray, List.getElem?_cons_succ, List.getElem?_cons_zero]; rfl) (by kernel_rfl) (by exact fun _ _ _ h => h) (by first | assumption | exact KB.refl _) (.inl ⟨by rfl, fun W hW => ?_⟩) ?_; rotate_left
      · (go_simp; first | done | with_reducible rfl)
      try simp only [Act.put, List.setIfInBounds_toArray, List.set_cons_zero, List.set_cons_succ]
      refine btakeE 1 [] (oi := _) (v := ?_) (by simp only [List.getElem?_toArray, List.getElem?_cons_succ, List.getElem?_cons_zero]; rfl) (by kernel_rfl) (by exact fun _ _ _ h => h) (by first | assumption | exact KB.refl _) (.inl ⟨by rfl, fun W hW => ?_⟩) ?_; rotate_left
      · (go_simp; first | done | with_reducible rfl)
      try simp only [Act.put, List.setIfInBounds_toArray, List.set_cons_zero, List.set_cons_succ]
      refine btakeE 2 [] (oi := _) (v := ?_) (by simp only [List.getElem?_toArray, List.getElem?_cons_succ, List.getElem?_cons_zero]; rfl) (by kernel_rfl) (by exact fun _ _ _ h => h) (by first | assumption | exact KB.refl _) (.inl ⟨by rfl, fun W hW => ?_⟩) ?_; rotate_left
      · (go_simp; first | done | with_reducible rfl)
      try simp only [Act.put, List.setIfInBounds_toArray, List.set_cons_zero, List.set_cons_succ]
      refine btakeE 3 [] (oi := _) (v := ?_) (by simp only [List.getElem?_toArray, List.getElem?_cons_succ, List.getElem?_cons_zero]; rfl) (by kernel_rfl) (by exact fun _ _ _ h => h) (by first | assumption | exact KB.refl _) (.inl ⟨by rfl, fun W hW => ?_⟩) ?_; rotate_left
      · (go_simp; first | done | with_reducible rfl)
      try simp only [Act.put, List.setIfInBounds_toArray, List.set_cons_zero, List.set_cons_succ]
      refine btakeE 4 [] (oi := _) (v := ?_) (by simp only [List.getElem?_toArray, List.getElem?_cons_succ, List.getElem?_cons_zero]; rfl) (by kernel_rfl) (by exact fun _ _ _ h => h) (by first | assumption | exact KB.refl _) (.inl ⟨by rfl, fun W hW => ?_⟩) ?_; rotate_left
      · (go_simp; first | done | with_reducible rfl)
      try simp only [Act.put, List.setIfInBounds_toArray, List.set_cons_zero, List.set_cons_succ]
      refine btakeE 5 [] (oi := _) (v := ?_) (by simp only [List.getElem?_toArray, List.getElem?_cons_succ, List.getElem?_cons_zero]; rfl) (by kernel_rfl) (by exact fun _ _ _ h => h) (by first | assumption | exact KB.refl _) (.inl ⟨by rfl, fun W hW => ?_⟩) ?_; rotate_left
      · (go_simp; first | done | with_reducible rfl)
      try simp only [Act.put, List.setIfInBounds_toArray, List.set_cons_zero, List.set_cons_succ]
      refine btakeE 6 [] (oi := _) (v := ?_) (by simp only [List.getElem?_toArray, List.getElem?_cons_succ, List.getElem?_cons_zero]; rfl) (by kernel_rfl) (by exact fun _ _ _ h => h) (by first | assumption | exact KB.refl _) (.inl ⟨by rfl, fun W hW => ?_⟩) ?_; rotate_left
      · (go_simp; first | done | with_reducible rfl)
      try simp only [Act.put, List.setIfInBounds_toArray, List.set_cons_zero, List.set_cons_succ]
      refine btakeE 7 [] (oi := _) (v := ?_) (by simp only [List.getElem?_toArray, List.getElem?_cons_succ, List.getElem?_cons_zero]; rfl) (by kernel_rfl) (by exact fun _ _ _ h => h) (by first | assumption | exact KB.refl _) (.inl ⟨by rfl, fun W hW => ?_⟩) ?_; rotate_left
      · (go_simp; first | done | with_reducible rfl)
      try simp only [Act.put, List.setIfInBounds_toArray, List.set_cons_zero, List.set_cons_succ]
      refine btakeE 8 [] (oi := _) (v := ?_) (by simp only [List.getElem?_toArray, List.getElem?_cons_succ, List.getElem?_cons_zero]; rfl) (by kernel_rfl) (by exact fun _ _ _ h => h) (by first | assumption | exact KB.refl _) (.inl ⟨by rfl, fun W hW => ?_⟩) ?_; rotate_left
      · (go_simp; first | done | with_reducible rfl)
      try simp only [Act.put, List.setIfInBounds_toArray, List.set_cons_zero, List.set_cons_succ]
      -- 9: Op.store 59 (Operand.tmp 4) (Operand.tmp 20)
      refine blastE 9 (o := _) (by simp only [List.getElem?_toArray, List.getElem?_cons_succ, List.getElem?_cons_zero]; rfl) (by kernel_rfl) (by rfl) (by rfl) (fun K hK => ?_)
      go_simp
      skip
      refine hK.out _ _ ?_; clear hK K
      try simp only [Act.put, List.setIfInBounds_toArray, List.set_cons_zero, List.set_cons_succ]
      refine bdoneE (by kernel_rfl) ?_
      have hmin : (if n < s then (n : Int) else (s : Int)) = ((min s n : Nat) : Int) := by split <;> omega
      rw [hmin]
      have hK5 := ((HK.out.set 0 (.slice A2 n n) (by simp)).set 1 (.int .i64 ((min s n : Nat) : Int)) (by simp)).drew
      have hg5 : Grew (fun k => k = w.heap.size + 1) w3 ((w3.setCell ⟨w.heap.size + 1, 0, none⟩ (.slice A2 n n)).setCell ⟨w.heap.size + 1, 1, none⟩ (.int .i64 ((min s n : Nat) : Int))).drew := (((Grew.refl _ w3).putP _).putP _).drew
      have hb5 : Below w.heap.size w ((w3.setCell ⟨w.heap.size + 1, 0, none⟩ (.slice A2 n n)).setCell ⟨w.heap.size + 1, 1, none⟩ (.int .i64 ((min s n : Nat) : Int))).drew := ((hb4.setCell (by simp) _).setCell (by simp) _).drew
      obtain ⟨g', hA2, hFr⟩ := HV.out
      have hFr5 := (hFr.grew hg5 (fun k hk => by simp; omega)).from (w0 := w) (by simp; omega)
      clear hg5 hFr z0 z1 f0 f1 e1 hS0
      generalize ((w3.setCell ⟨w.heap.size + 1, 0, none⟩ (.slice A2 n n)).setCell ⟨w.heap.size + 1, 1, none⟩ (.int .i64 ((min s n : Nat) : Int))).drew = w5 at *
      have v0 := hK5.c 0 rfl
      have v1 := hK5.c 1 rfl
      go_wp2_with fail
      exact bodyPost_ret (v := .agg #[.slice A2 n n, .int .i64 ((min s n : Nat) : Int)]) (by simp [results, Try.results34, go_sem, v0, v1]) rfl ⟨g', by rw [hA2], hFr5, hb5⟩
end Go.Proofs.Ythnbnhlfiehihaa

