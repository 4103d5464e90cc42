/- Disks: the document's cut. -/
import Derived.ArgAppend
import Derived.Test.YthnbnhlfiehihaaM00
import Derived.Test.YthnbnhlfiehihaaM02
import Derived.Test.YthnbnhlfiehihaaM03
import Derived.Test.YthnbnhlfiehihaaM04
import Derived.Test.YthnbnhlfiehihaaM06
namespace Go.Proofs.Ythnbnhlfiehihaa
open Go.RowKit Go.Maps
set_option maxRecDepth 20000

section
variable {P : Program} {t e : TypeId} {α : Type}
theorem run_appE0 (E : ET P t e α) (w : World) (ty : TypeId) {A A' : Option Addr} {n cap c : Nat} (hle : n ≤ cap) :
    (Builtin.append_ #[t, t] ty #[.slice A n cap, .slice A' 0 c]).run P w = .ok (.slice A n cap) w := by
  obtain ⟨i, hi, hz, hz1, hz2⟩ := info_parts E.info
  cases A' with
  | none => exact Go.run_append_nothing w _ _ ty e i E.ty hi A n cap hle _ (Go.Src.ofNil w E.ty c)
  | some a => exact Go.run_append_nothing w _ _ ty e i E.ty hi A n cap hle _ (Go.Src.ofSlice w E.ty a 0 c [] (by simp) (by simp) (by simp))
theorem wp_appE0 {K : Act → World → Prop} {o : Oper} {a : Act} {Q : Exit → Act → World → Prop} {w : World} {s x : Operand} (E : ET P t e α) (ho : o.op = .call { callee := .builtin .append, args := #[s, x], argTypes := #[t, t] })
    {A A' : Option Addr} {n c cap : Nat} (hs : a.eval s = .slice A n cap) (hx : a.eval x = .slice A' 0 c) (hle : n ≤ cap) (h : K (a.put o.dst (.slice A n cap)) w) : o.wp P a w K Q := by
  have hrun := run_appE0 E w o.type (A := A) (A' := A') (c := c) hle
  unfold Oper.wp execOp
  simp only [ho, resolve, invoke, builtin, Sem.run_bind, Sem.run_pure, Result.andThen_ok, List.map_toArray, List.map_cons, List.map_nil, hs, hx, hrun]
  exact h
end
/-- the row cut short where it lies -/
theorem ddp_short {w w6 : World} {d k m c : Nat} {F H : Nat → Prop} {s s' : DK} {A : Option Addr} {G : List NF} (hF : DD w d F H s) (hAG : At w d (boxD A m c s)) (hG : mapN FV.f G = s.R) (hm : G.length = m) (hb6 : Below w.heap.size w w6) (hk : k ≤ m)
    (hAt : At w6 d (boxD A m c s')) (hsl : Sl w w.heap.size A (EK.dv G)) (hR : mapN FV.f (G.take k) = s'.R) (hv : ∀ q ∈ G, FVat w F H q.2) :
    DDP w d F H s' (w6.setCell ⟨d, 1, none⟩ (.slice A k k)) := by
  have hFd := hF.fd
  have hlt := hF.lt
  have hgr : Grew F w (w6.setCell ⟨d, 1, none⟩ (.slice A k k)) := (Grew.below hb6).put (.inl hFd) _
  have hgr' : Grew (fun i => i = d) w (w6.setCell ⟨d, 1, none⟩ (.slice A k k)) := (Grew.below hb6).put (S := fun i => i = d) (.inl rfl) _
  have hbox : At (w6.setCell ⟨d, 1, none⟩ (.slice A k k)) d (boxD A k k s') := hAt.set 1 (.slice A k k) (by simp [boxD])
  have hlen : (G.take k).length = k := by rw [List.length_take]; omega
  obtain ⟨A', c', G', h1, h2, h3, h4, h5, h6, h7, h8, h9⟩ := hF
  have hA1 := h1.c 1 rfl
  rw [hAG.c 1 rfl] at hA1
  have eA : A = A' := by injection hA1 with hA1; injection hA1
  subst eA
  refine ⟨F, H, ⟨A, k, G.take k, by rw [hlen]; exact hbox, ?_, Nat.le_of_eq hlen, ?_, hR, fun q hq => ?_, hFd, h8, fun i hi => Nat.lt_of_lt_of_le (hlt i hi) hgr.size⟩, fun _ => .inl, fun _ => .inl, hgr⟩
  · rcases h2 with ⟨rfl, rfl, rfl⟩ | ⟨g, e, hFg, hgd, hr⟩
    · have : s.R = [] := h5.symm
      rw [this] at hG
      have : G = [] := List.eq_nil_of_length_eq_zero (by rw [← mapN_len FV.f, hG]; rfl)
      subst this
      simp only [List.length_nil] at hm
      exact .inl ⟨rfl, by simp, by omega⟩
    · subst e
      have hGr : EK.Row w g G := by
        have e1 : EK.dv G' = EK.dv G := by
          have hl : G'.length = G.length := by rw [← mapN_len FV.f, h5, ← hG, mapN_len]
          have hl2 : (EK.dv G').length = (EK.dv G).length := by rw [EK.dv_len, EK.dv_len, hl]
          apply List.ext_getElem?
          intro i
          by_cases hi : i < (EK.dv G).length
          · rcases hsl with h | ⟨b, o, e, _, _, hc⟩
            · rw [h] at hi; simp at hi
            · cases e
              have hi2 : i < (EK.dv G').length := by omega
              have c1 := hc i _ (List.getElem?_eq_getElem hi)
              have c2 := (hr.2 i _ (List.getElem?_eq_getElem hi2)).1
              rw [Nat.zero_add] at c1
              rw [List.getElem?_eq_getElem hi, List.getElem?_eq_getElem hi2]
              exact c2.symm.trans c1
          · rw [List.getElem?_eq_none (show (EK.dv G').length ≤ i by omega), List.getElem?_eq_none (show (EK.dv G).length ≤ i by omega)]
        exact ⟨hr.1, fun j u hj => hr.2 j u (by rw [e1]; exact hj)⟩
      exact .inr ⟨g, rfl, hFg, hgd, At.grew (hGr.take k) hgr' hgd⟩
  · have e3 : c = c' := by injection hA1 with hA1; injection hA1
    have e4 : m = G'.length := by injection hA1 with hA1; injection hA1
    omega
  · exact (hv q (List.mem_of_mem_take hq)).grew hgr' (fun i hi hFi e => hFi (e ▸ hFd))
def QB (w4 : World) (d : Nat) (b : List Value) (W : World) : Prop := At W d b ∧ w4.heap.size ≤ W.heap.size
theorem QB.grow {w4 W W' : World} {d : Nat} {b : List Value} (h : QB w4 d b W) (hb : Below w4.heap.size W W') (hd : d < w4.heap.size) : QB w4 d b W' := ⟨h.1.belowB hd hb hb.size, Nat.le_trans h.2 hb.size⟩
set_option maxRecDepth 100000 in
set_option maxHeartbeats 3200000 in
theorem cut_any (w : World) (d : Nat) (F H : Nat → Prop) (s : DK) (n : Nat) (h : DD w d F H s) (hok : s.ok n) (hn : n < 1000000) {x : Nm} {k : Nat} {f : DF} (hx : s.R[k]? = some (x, f)) :
    Calls Try.prog 59 #[.pointer (some ⟨d, 0, none⟩), .int .i64 (k : Int)] w fun e w' => e = .returned (.tuple #[]) ∧ DDP w d F H { s with R := delA s.R x } w' := by
  obtain ⟨A, c, G, h1, hsl, hc, hcm, hnil, hG, hvs⟩ := h.sl
  have hdel : mapN FV.f (G.take k ++ G.drop (k + 1)) = delA s.R x := by
    rw [← del_at hok.rise hx, ← hG]
    simp [mapN, List.map_take, List.map_drop]
  have hlen : (G.length : Int) ≤ n := by
    have h1 := hok.files
    have h2 := hok.calls
    rw [← hG, mapN_len] at h1
    omega
  have hkm : k < G.length := by
    have := (List.getElem?_eq_some_iff.1 hx).1
    rw [← hG, mapN_len] at this
    exact this
  have hdl := h1.1
  obtain ⟨m, hm⟩ : ∃ m, G.length = m := ⟨_, rfl⟩
  rw [hm] at h1 hc hlen hkm
  obtain ⟨A2, hs2, hS2⟩ := EK.sl_post A m c (k + 1) hkm hc
  have HG := Lib.hid (And.intro h (And.intro h1 (And.intro hsl (And.intro hcm (And.intro hnil (And.intro hG (And.intro hvs hm)))))))
  have HS2 := Lib.hid (And.intro hs2 (And.intro hS2 hdel))
  have HTL := Lib.hid (And.intro (show (G.take k).length = k by rw [List.length_take, hm]; omega) (show (G.drop (k + 1)).length = m - (k + 1) by rw [List.length_drop, hm]))
  clear h hok hx hsl hcm hnil hG hvs hm hs2 hS2 h1 hdel
  have hw1 : IntKind.i64.wrap ((k : Int) + 1) = ((k + 1 : Nat) : Int) := by rw [IntKind.wrap_i64]; omega
  have hx0 : (0 : Int) ≤ (k : Int) := by omega
  go_enter Try.func59, Try.ntmps59
  have hS0 : QB w d (boxD A m c s) w.drew := ⟨HG.out.2.1, Nat.le_refl _⟩
  have e4 : ∀ W, QB w d (boxD A m c s) W → W.cell? ⟨d, 1, none⟩ = some (.slice A m c) := fun W h => h.1.c 1 rfl
  go_wp2_with fail
  by_cases hlast : k + 1 = m
  · skip
    refine bstartE (QB w d (boxD A m c s)) 18 (by kernel_rfl) ?_
    refine btakeE 0 [] (oi := _) (v := ?_) (by simp only [List.getElem?_toArray, List.getElem?_cons_zero]; rfl) (by kernel_rfl) (by exact fun _ _ _ h => h) (by first | assumption | exact KB.refl _) (.inl ⟨by rfl, fun W hW => ?_⟩) ?_; rotate_left
    · (go_simp; first | done | with_reducible rfl)
    try simp only [Act.put, List.setIfInBounds_toArray, List.set_cons_zero, List.set_cons_succ]
    refine btakeE 1 [] (oi := _) (v := ?_) (by simp only [List.getElem?_toArray, List.getElem?_cons_succ, List.getElem?_cons_zero]; rfl) (by kernel_rfl) (by exact fun _ _ _ h => h) (by first | assumption | exact KB.refl _) (.inl ⟨by rfl, fun W hW => ?_⟩) ?_; rotate_left
    · (go_simp; first | done | with_reducible rfl)
    try simp only [Act.put, List.setIfInBounds_toArray, List.set_cons_zero, List.set_cons_succ]
    refine btakeE 2 [] (oi := _) (v := ?_) (by simp only [List.getElem?_toArray, List.getElem?_cons_succ, List.getElem?_cons_zero]; rfl) (by kernel_rfl) (by exact fun _ _ _ h => h) (by first | assumption | exact KB.refl _) (.inl ⟨by rfl, fun W hW => ?_⟩) ?_; rotate_left
    · (go_simp; first | done | with_reducible rfl)
    try simp only [Act.put, List.setIfInBounds_toArray, List.set_cons_zero, List.set_cons_succ]
    refine btakeE 3 [] (oi := _) (v := ?_) (by simp only [List.getElem?_toArray, List.getElem?_cons_succ, List.getElem?_cons_zero]; rfl) (by kernel_rfl) (by exact fun _ _ _ h => h) (by first | assumption | exact KB.refl _) (.inl ⟨by rfl, fun W hW => ?_⟩) ?_; rotate_left
    · (go_simp; first | done | with_reducible rfl)
    try simp only [Act.put, List.setIfInBounds_toArray, List.set_cons_zero, List.set_cons_succ]
    refine btakeE 4 [] (oi := _) (v := ?_) (by simp only [List.getElem?_toArray, List.getElem?_cons_succ, List.getElem?_cons_zero]; rfl) (by kernel_rfl) (by exact fun _ _ _ h => h) (by first | assumption | exact KB.refl _) (.inl ⟨by rfl, fun W hW => ?_⟩) ?_; rotate_left
    · (go_simp; first | done | with_reducible rfl)
    try simp only [Act.put, List.setIfInBounds_toArray, List.set_cons_zero, List.set_cons_succ]
    refine btakeE 5 [] (oi := _) (v := ?_) (by simp only [List.getElem?_toArray, List.getElem?_cons_succ, List.getElem?_cons_zero]; rfl) (by kernel_rfl) (by exact fun _ _ _ h => h) (by first | assumption | exact KB.refl _) (.inl ⟨by rfl, fun W hW => ?_⟩) ?_; rotate_left
    · (go_simp; first | done | with_reducible rfl)
    try simp only [Act.put, List.setIfInBounds_toArray, List.set_cons_zero, List.set_cons_succ]
    refine btakeE 6 [] (oi := _) (v := ?_) (by simp only [List.getElem?_toArray, List.getElem?_cons_succ, List.getElem?_cons_zero]; rfl) (by kernel_rfl) (by exact fun _ _ _ h => h) (by first | assumption | exact KB.refl _) (.inl ⟨by rfl, fun W hW => ?_⟩) ?_; rotate_left
    · (go_simp; first | done | with_reducible rfl)
    try simp only [Act.put, List.setIfInBounds_toArray, List.set_cons_zero, List.set_cons_succ]
    refine btakeE 7 [] (oi := _) (v := ?_) (by simp only [List.getElem?_toArray, List.getElem?_cons_succ, List.getElem?_cons_zero]; rfl) (by kernel_rfl) (by exact fun _ _ _ h => h) (by first | assumption | exact KB.refl _) (.inl ⟨by rfl, fun W hW => ?_⟩) ?_; rotate_left
    · refine Eq.trans (EK.exec_pre (x := .tmp 8) (y := .tmp 9) (z := .tmp 10) (A := A) (m := m) (c := c) (j := k) ?_ ?_ ?_ ?_ (by omega) _) ?_ <;> first | rfl | with_reducible rfl
    try simp only [Act.put, List.setIfInBounds_toArray, List.set_cons_zero, List.set_cons_succ]
    refine btakeE 8 [] (oi := _) (v := ?_) (by simp only [List.getElem?_toArray, List.getElem?_cons_succ, List.getElem?_cons_zero]; rfl) (by kernel_rfl) (by exact fun _ _ _ h => h) (by first | assumption | exact KB.refl _) (.inl ⟨by rfl, fun W hW => ?_⟩) ?_; rotate_left
    · (go_simp; first | done | with_reducible rfl)
    try simp only [Act.put, List.setIfInBounds_toArray, List.set_cons_zero, List.set_cons_succ]
    refine btakeE 9 [] (oi := _) (v := ?_) (by simp only [List.getElem?_toArray, List.getElem?_cons_succ, List.getElem?_cons_zero]; rfl) (by kernel_rfl) (by exact fun _ _ _ h => h) (by first | assumption | exact KB.refl _) (.inl ⟨by rfl, fun W hW => ?_⟩) ?_; rotate_left
    · (go_simp; first | done | with_reducible rfl)
    try simp only [Act.put, List.setIfInBounds_toArray, List.set_cons_zero, List.set_cons_succ]
    refine btakeE 10 [] (oi := _) (v := ?_) (by simp only [List.getElem?_toArray, List.getElem?_cons_succ, List.getElem?_cons_zero]; rfl) (by kernel_rfl) (by exact fun _ _ _ h => h) (by first | assumption | exact KB.refl _) (.inl ⟨by rfl, fun W hW => ?_⟩) ?_; rotate_left
    · (go_simp; first | done | with_reducible rfl)
    try simp only [Act.put, List.setIfInBounds_toArray, List.set_cons_zero, List.set_cons_succ]
    refine btakeE 11 [] (oi := _) (v := ?_) (by simp only [List.getElem?_toArray, List.getElem?_cons_succ, List.getElem?_cons_zero]; rfl) (by kernel_rfl) (by exact fun _ _ _ h => h) (by first | assumption | exact KB.refl _) (.inl ⟨by rfl, fun W hW => ?_⟩) ?_; rotate_left
    · (go_simp; first | done | with_reducible rfl)
    try simp only [Act.put, List.setIfInBounds_toArray, List.set_cons_zero, List.set_cons_succ]
    refine btakeE 12 [] (oi := _) (v := ?_) (by simp only [List.getElem?_toArray, List.getElem?_cons_succ, List.getElem?_cons_zero]; rfl) (by kernel_rfl) (by exact fun _ _ _ h => h) (by first | assumption | exact KB.refl _) (.inl ⟨by rfl, fun W hW => ?_⟩) ?_; rotate_left
    · (go_simp; first | done | with_reducible rfl)
    try simp only [Act.put, List.setIfInBounds_toArray, List.set_cons_zero, List.set_cons_succ]
    refine btakeE 13 [] (oi := _) (v := ?_) (by simp only [List.getElem?_toArray, List.getElem?_cons_succ, List.getElem?_cons_zero]; rfl) (by kernel_rfl) (by exact fun _ _ _ h => h) (by first | assumption | exact KB.refl _) (.inl ⟨by rfl, fun W hW => ?_⟩) ?_; rotate_left
    · refine Eq.trans (show _ = Result.ok (Next.value (.int .i64 ((k + 1 : Nat) : Int))) W from by go_simp) ?_
      with_reducible rfl
    try simp only [Act.put, List.setIfInBounds_toArray, List.set_cons_zero, List.set_cons_succ]
    refine btakeE 14 [] (oi := _) (v := ?_) (by simp only [List.getElem?_toArray, List.getElem?_cons_succ, List.getElem?_cons_zero]; rfl) (by kernel_rfl) (by exact fun _ _ _ h => h) (by first | assumption | exact KB.refl _) (.inl ⟨by rfl, fun W hW => ?_⟩) ?_; rotate_left
    · refine Eq.trans (EK.exec_post (x := .tmp 15) (y := .tmp 17) (A := A) (m := m) (c := c) (j := k + 1) ?_ ?_ ?_ HS2.out.1 _) ?_ <;> first | rfl | with_reducible rfl
    try simp only [Act.put, List.setIfInBounds_toArray, List.set_cons_zero, List.set_cons_succ]
    -- 15: Op.call { callee := Callee.builtin Builtin.append, args := #[Operand.tmp 11, Operand.tmp 18], argTypes := #[63, 63] }
    refine bopE 15 (o := _) (by simp only [List.getElem?_toArray, List.getElem?_cons_succ, List.getElem?_cons_zero]; rfl) (by kernel_rfl) (by rfl) (fun K hK => ?_)
    refine wp_appE0 (A := A) (n := k) (cap := k) (A' := A2) (c := c - (k + 1)) EK rfl rfl (by rw [show (0 : Nat) = m - (k + 1) from by omega]; rfl) (Nat.le_refl _) ?_
    have hkb := hS0
    have zc := hkb.1.c 1 rfl
    have zf := hkb.1.f 1 rfl
    refine hK.out _ _ hkb ?_; clear hK K
    try simp only [Act.put, List.setIfInBounds_toArray, List.set_cons_zero, List.set_cons_succ]
    refine btakeE 16 [17] (oi := _) (v := ?_) (by simp only [List.getElem?_toArray, List.getElem?_cons_succ, List.getElem?_cons_zero]; rfl) (by kernel_rfl) (by exact fun _ _ _ h => h) (by first | assumption | exact KB.refl _) (.inl ⟨by rfl, fun W hW => ?_⟩) ?_; rotate_left
    · (go_simp; first | done | with_reducible rfl)
    try simp only [Act.put, List.setIfInBounds_toArray, List.set_cons_zero, List.set_cons_succ]
    refine btakeE 17 [] (oi := _) (v := ?_) (by simp only [List.getElem?_toArray, List.getElem?_cons_succ, List.getElem?_cons_zero]; rfl) (by kernel_rfl) (by exact fun _ _ _ h => h) (by first | assumption | exact KB.refl _) (.inl ⟨by rfl, fun W hW => ?_⟩) ?_; rotate_left
    · (go_simp; first | done | with_reducible rfl)
    try simp only [Act.put, List.setIfInBounds_toArray, List.set_cons_zero, List.set_cons_succ]
    -- 18: Op.store 63 (Operand.tmp 21) (Operand.tmp 19)
    refine blastE 18 (o := _) (by simp only [List.getElem?_toArray, List.getElem?_cons_succ, List.getElem?_cons_zero]; rfl) (by kernel_rfl) (by rfl) (by rfl) (fun K hK => ?_)
    go_simp
    skip
    refine hK.out _ _ ?_; clear hK K
    try simp only [Act.put, List.setIfInBounds_toArray, List.set_cons_zero, List.set_cons_succ]
    refine bdoneE (by kernel_rfl) ?_
    go_end0
    refine ⟨rfl, ?_⟩
    have hd0 : G.drop (k + 1) = [] := List.eq_nil_of_length_eq_zero (by rw [HTL.out.2]; omega)
    have hdel := HS2.out.2.2
    rw [hd0, List.append_nil] at hdel
    exact ddp_short (s' := { s with R := delA s.R x }) (k := k) HG.out.1 HG.out.2.1 HG.out.2.2.2.2.2.1 HG.out.2.2.2.2.2.2.2 (Below.refl w.heap.size w).drew (by omega) HG.out.2.1 HG.out.2.2.1 hdel HG.out.2.2.2.2.2.2.1
  · skip
    refine bstartE (QB w d (boxD A m c s)) 18 (by kernel_rfl) ?_
    refine btakeE 0 [] (oi := _) (v := ?_) (by simp only [List.getElem?_toArray, List.getElem?_cons_zero]; rfl) (by kernel_rfl) (by exact fun _ _ _ h => h) (by first | assumption | exact KB.refl _) (.inl ⟨by rfl, fun W hW => ?_⟩) ?_; rotate_left
    · (go_simp; first | done | with_reducible rfl)
    try simp only [Act.put, List.setIfInBounds_toArray, List.set_cons_zero, List.set_cons_succ]
    refine btakeE 1 [] (oi := _) (v := ?_) (by simp only [List.getElem?_toArray, List.getElem?_cons_succ, List.getElem?_cons_zero]; rfl) (by kernel_rfl) (by exact fun _ _ _ h => h) (by first | assumption | exact KB.refl _) (.inl ⟨by rfl, fun W hW => ?_⟩) ?_; rotate_left
    · (go_simp; first | done | with_reducible rfl)
    try simp only [Act.put, List.setIfInBounds_toArray, List.set_cons_zero, List.set_cons_succ]
    refine btakeE 2 [] (oi := _) (v := ?_) (by simp only [List.getElem?_toArray, List.getElem?_cons_succ, List.getElem?_cons_zero]; rfl) (by kernel_rfl) (by exact fun _ _ _ h => h) (by first | assumption | exact KB.refl _) (.inl ⟨by rfl, fun W hW => ?_⟩) ?_; rotate_left
    · (go_simp; first | done | with_reducible rfl)
    try simp only [Act.put, List.setIfInBounds_toArray, List.set_cons_zero, List.set_cons_succ]
    refine btakeE 3 [] (oi := _) (v := ?_) (by simp only [List.getElem?_toArray, List.getElem?_cons_succ, List.getElem?_cons_zero]; rfl) (by kernel_rfl) (by exact fun _ _ _ h => h) (by first | assumption | exact KB.refl _) (.inl ⟨by rfl, fun W hW => ?_⟩) ?_; rotate_left
    · (go_simp; first | done | with_reducible rfl)
    try simp only [Act.put, List.setIfInBounds_toArray, List.set_cons_zero, List.set_cons_succ]
    refine btakeE 4 [] (oi := _) (v := ?_) (by simp only [List.getElem?_toArray, List.getElem?_cons_succ, List.getElem?_cons_zero]; rfl) (by kernel_rfl) (by exact fun _ _ _ h => h) (by first | assumption | exact KB.refl _) (.inl ⟨by rfl, fun W hW => ?_⟩) ?_; rotate_left
    · (go_simp; first | done | with_reducible rfl)
    try simp only [Act.put, List.setIfInBounds_toArray, List.set_cons_zero, List.set_cons_succ]
    refine btakeE 5 [] (oi := _) (v := ?_) (by simp only [List.getElem?_toArray, List.getElem?_cons_succ, List.getElem?_cons_zero]; rfl) (by kernel_rfl) (by exact fun _ _ _ h => h) (by first | assumption | exact KB.refl _) (.inl ⟨by rfl, fun W hW => ?_⟩) ?_; rotate_left
    · (go_simp; first | done | with_reducible rfl)
    try simp only [Act.put, List.setIfInBounds_toArray, List.set_cons_zero, List.set_cons_succ]
    refine btakeE 6 [] (oi := _) (v := ?_) (by simp only [List.getElem?_toArray, List.getElem?_cons_succ, List.getElem?_cons_zero]; rfl) (by kernel_rfl) (by exact fun _ _ _ h => h) (by first | assumption | exact KB.refl _) (.inl ⟨by rfl, fun W hW => ?_⟩) ?_; rotate_left
    · (go_simp; first | done | with_reducible rfl)
    try simp only [Act.put, List.setIfInBounds_toArray, List.set_cons_zero, List.set_cons_succ]
    refine btakeE 7 [] (oi := _) (v := ?_) (by simp only [List.getElem?_toArray, List.getElem?_cons_succ, List.getElem?_cons_zero]; rfl) (by kernel_rfl) (by exact fun _ _ _ h => h) (by first | assumption | exact KB.refl _) (.inl ⟨by rfl, fun W hW => ?_⟩) ?_; rotate_left
    · refine Eq.trans (EK.exec_pre (x := .tmp 8) (y := .tmp 9) (z := .tmp 10) (A := A) (m := m) (c := c) (j := k) ?_ ?_ ?_ ?_ (by omega) _) ?_ <;> first | rfl | with_reducible rfl
    try simp only [Act.put, List.setIfInBounds_toArray, List.set_cons_zero, List.set_cons_succ]
    refine btakeE 8 [] (oi := _) (v := ?_) (by simp only [List.getElem?_toArray, List.getElem?_cons_succ, List.getElem?_cons_zero]; rfl) (by kernel_rfl) (by exact fun _ _ _ h => h) (by first | assumption | exact KB.refl _) (.inl ⟨by rfl, fun W hW => ?_⟩) ?_; rotate_left
    · (go_simp; first | done | with_reducible rfl)
    try simp only [Act.put, List.setIfInBounds_toArray, List.set_cons_zero, List.set_cons_succ]
    refine btakeE 9 [] (oi := _) (v := ?_) (by simp only [List.getElem?_toArray, List.getElem?_cons_succ, List.getElem?_cons_zero]; rfl) (by kernel_rfl) (by exact fun _ _ _ h => h) (by first | assumption | exact KB.refl _) (.inl ⟨by rfl, fun W hW => ?_⟩) ?_; rotate_left
    · (go_simp; first | done | with_reducible rfl)
    try simp only [Act.put, List.setIfInBounds_toArray, List.set_cons_zero, List.set_cons_succ]
    refine btakeE 10 [] (oi := _) (v := ?_) (by simp only [List.getElem?_toArray, List.getElem?_cons_succ, List.getElem?_cons_zero]; rfl) (by kernel_rfl) (by exact fun _ _ _ h => h) (by first | assumption | exact KB.refl _) (.inl ⟨by rfl, fun W hW => ?_⟩) ?_; rotate_left
    · (go_simp; first | done | with_reducible rfl)
    try simp only [Act.put, List.setIfInBounds_toArray, List.set_cons_zero, List.set_cons_succ]
    refine btakeE 11 [] (oi := _) (v := ?_) (by simp only [List.getElem?_toArray, List.getElem?_cons_succ, List.getElem?_cons_zero]; rfl) (by kernel_rfl) (by exact fun _ _ _ h => h) (by first | assumption | exact KB.refl _) (.inl ⟨by rfl, fun W hW => ?_⟩) ?_; rotate_left
    · (go_simp; first | done | with_reducible rfl)
    try simp only [Act.put, List.setIfInBounds_toArray, List.set_cons_zero, List.set_cons_succ]
    refine btakeE 12 [] (oi := _) (v := ?_) (by simp only [List.getElem?_toArray, List.getElem?_cons_succ, List.getElem?_cons_zero]; rfl) (by kernel_rfl) (by exact fun _ _ _ h => h) (by first | assumption | exact KB.refl _) (.inl ⟨by rfl, fun W hW => ?_⟩) ?_; rotate_left
    · (go_simp; first | done | with_reducible rfl)
    try simp only [Act.put, List.setIfInBounds_toArray, List.set_cons_zero, List.set_cons_succ]
    refine btakeE 13 [] (oi := _) (v := ?_) (by simp only [List.getElem?_toArray, List.getElem?_cons_succ, List.getElem?_cons_zero]; rfl) (by kernel_rfl) (by exact fun _ _ _ h => h) (by first | assumption | exact KB.refl _) (.inl ⟨by rfl, fun W hW => ?_⟩) ?_; rotate_left
    · refine Eq.trans (show _ = Result.ok (Next.value (.int .i64 ((k + 1 : Nat) : Int))) W from by go_simp) ?_
      with_reducible rfl
    try simp only [Act.put, List.setIfInBounds_toArray, List.set_cons_zero, List.set_cons_succ]
    refine btakeE 14 [] (oi := _) (v := ?_) (by simp only [List.getElem?_toArray, List.getElem?_cons_succ, List.getElem?_cons_zero]; rfl) (by kernel_rfl) (by exact fun _ _ _ h => h) (by first | assumption | exact KB.refl _) (.inl ⟨by rfl, fun W hW => ?_⟩) ?_; rotate_left
    · refine Eq.trans (EK.exec_post (x := .tmp 15) (y := .tmp 17) (A := A) (m := m) (c := c) (j := k + 1) ?_ ?_ ?_ HS2.out.1 _) ?_ <;> first | rfl | with_reducible rfl
    try simp only [Act.put, List.setIfInBounds_toArray, List.set_cons_zero, List.set_cons_succ]
    -- 15: Op.call { callee := Callee.builtin Builtin.append, args := #[Operand.tmp 11, Operand.tmp 18], argTypes := #[63, 63] }
    refine bopE 15 (o := _) (by simp only [List.getElem?_toArray, List.getElem?_cons_succ, List.getElem?_cons_zero]; rfl) (by kernel_rfl) (by rfl) (fun K hK => ?_)
    have hSp : Sl w.drew w.heap.size A (EK.dv (G.take k)) := by rw [← EK.dv_take]; exact HG.out.2.2.1.tk _
    have hSd : Sl w.drew w.heap.size A2 (EK.dv (G.drop (k + 1))) := HS2.out.2.1 _ _ G HG.out.2.2.2.2.2.2.2 HG.out.2.2.1
    refine wp_appFE rfl hSp HTL.out.1.symm hSd HTL.out.2.symm rfl rfl (by omega) (fun e => by have h0 := HG.out.2.2.2.2.1 e; have h2 := HG.out.2.2.2.2.2.2.2; rw [h0.1] at h2; simp at h2; omega) (Nat.le_refl _) (by rw [HTL.out.1, HTL.out.2]; omega) ?_
    intro v6 w6 hown6 hg6
    have hb6 : Below w.heap.size w w6 := (Below.refl w.heap.size w).drew.trans (belowN hg6)
    obtain ⟨A6, c6, rfl, _, _, _, hnil6, _⟩ := hown6.form
    have hkb := hS0.grow (show Below w.heap.size w.drew w6 from ⟨hb6.os, hb6.tape, hb6.output, hb6.size, hb6.block⟩) hdl
    have zc := hkb.1.c 1 rfl
    have zf := hkb.1.f 1 rfl
    refine hK.out _ _ hkb ?_; clear hK K
    try simp only [Act.put, List.setIfInBounds_toArray, List.set_cons_zero, List.set_cons_succ]
    refine btakeE 16 [17] (oi := _) (v := ?_) (by simp only [List.getElem?_toArray, List.getElem?_cons_succ, List.getElem?_cons_zero]; rfl) (by kernel_rfl) (by exact fun _ _ _ h => h) (by first | assumption | exact KB.refl _) (.inl ⟨by rfl, fun W hW => ?_⟩) ?_; rotate_left
    · (go_simp; first | done | with_reducible rfl)
    try simp only [Act.put, List.setIfInBounds_toArray, List.set_cons_zero, List.set_cons_succ]
    refine btakeE 17 [] (oi := _) (v := ?_) (by simp only [List.getElem?_toArray, List.getElem?_cons_succ, List.getElem?_cons_zero]; rfl) (by kernel_rfl) (by exact fun _ _ _ h => h) (by first | assumption | exact KB.refl _) (.inl ⟨by rfl, fun W hW => ?_⟩) ?_; rotate_left
    · (go_simp; first | done | with_reducible rfl)
    try simp only [Act.put, List.setIfInBounds_toArray, List.set_cons_zero, List.set_cons_succ]
    -- 18: Op.store 63 (Operand.tmp 21) (Operand.tmp 19)
    refine blastE 18 (o := _) (by simp only [List.getElem?_toArray, List.getElem?_cons_succ, List.getElem?_cons_zero]; rfl) (by kernel_rfl) (by rfl) (by rfl) (fun K hK => ?_)
    go_simp
    skip
    refine hK.out _ _ ?_; clear hK K
    try simp only [Act.put, List.setIfInBounds_toArray, List.set_cons_zero, List.set_cons_succ]
    refine bdoneE (by kernel_rfl) ?_
    go_end0
    refine ⟨rfl, ?_⟩
    rw [show min k G.length + (G.length - (k + 1)) = (G.take k ++ G.drop (k + 1)).length from by simp]
    exact ddp_new (s' := { s with R := delA s.R x }) HG.out.1 hb6 hown6 (Nat.le_refl _) hkb.1 rfl HS2.out.2.2 (fun q hq => by rcases List.mem_append.1 hq with hq | hq; exact HG.out.2.2.2.2.2.2.1 q (List.mem_of_mem_take hq); exact HG.out.2.2.2.2.2.2.1 q (List.mem_of_mem_drop hq)) hnil6
end Go.Proofs.Ythnbnhlfiehihaa
/- Disks: the document's Create, Remove, Sure, Read. -/
namespace Go.Proofs.Ythnbnhlfiehihaa
open Go.RowKit Go.Maps
set_option maxRecDepth 20000

theorem look_idx {β : Type} {R : List (Nm × β)} {x : Nm} {f : β} (h : look R x = some f) : ∃ k : Nat, R[k]? = some (x, f) := List.getElem?_of_mem (look_mem h)
def DPost (w : World) (d : Nat) (F H : Nat → Prop) (r : Nat × DK) (e : Ending) (w' : World) : Prop := e = .returned (.int .i64 (r.1 : Int)) ∧ DDP w d F H r.2 w'
theorem DDP.trans {w w1 w2 : World} {d : Nat} {F H F' H' : Nat → Prop} {s : DK} (hm : Moved F H F' H' w w1) (h : DDP w1 d F' H' s w2) : DDP w d F H s w2 := by
  obtain ⟨F2, H2, h1, h2⟩ := h
  exact ⟨F2, H2, h1, hm.trans h2⟩
theorem Moved.same {F H : Nat → Prop} {w w' : World} (h : Grew F w w') : Moved F H F H w w' := ⟨fun _ => .inl, fun _ => .inl, h⟩
section
variable (w : World) (p : Nat) (F H : Nat → Prop) (s : DK) (n : Nat)
theorem dgone_at {q : Bool} (hq : s.power.off = q) (h : DD w p F H s) (hok : s.ok n) :
    Calls Try.prog 55 #[.pointer (some ⟨p, 0, none⟩)] w fun e w' => e = .returned (.bool q) ∧ DD w' p F H s.power ∧ Grew F w w' := by
  rw [← hq]; exact dgone_any w p F H s n h hok
theorem DCreate_any (h : DD w p F H s) (hok : s.ok n) (hn : n < 1000000) (x : Nm) :
    Calls Try.prog 40 #[.pointer (some ⟨p, 0, none⟩), str x] w (DPost w p F H (s.create x)) := by
  obtain ⟨q, hq⟩ : ∃ q, s.power.off = q := ⟨_, rfl⟩
  have hP := dgone_at w p F H s n hq h hok
  cases q with
  | true =>
    have e1 : s.create x = (34, s.power) := by simp [DK.create, hq]
    rw [e1]
    go_enter Try.func40, Try.ntmps40
    go_wp2_with (go_at_call 55; refine hP.mono ?_; rintro e w1 ⟨rfl, hp1, hg1⟩)
    go_ret
    exact ⟨rfl, .same hp1 hg1⟩
  | false =>
    cases hl : look s.R x with
    | some f =>
      obtain ⟨k, hk⟩ := look_idx hl
      have e1 : s.create x = (32, s.power) := by simp [DK.create, hq, DK.has, hl]
      rw [e1]
      have hx : s.power.R[k]? = some (x, f) := by rw [power_R]; exact hk
      go_enter Try.func40, Try.ntmps40
      go_wp2_with (first
        | (go_at_call 55; refine hP.mono ?_; rintro e w1 ⟨rfl, hp1, hg1⟩)
        | (go_at_call 54; refine (find_at _ p F H s.power n hp1 hok.power hn x hx).mono ?_; rintro e w2 ⟨rfl, rfl⟩))
      go_ret
      exact ⟨rfl, .same hp1 hg1⟩
    | none =>
      have e1 : s.create x = (0, s.power.lay (putN s.power.R x DF.nil)) := by simp [DK.create, hq, DK.has, hl, power_R]
      rw [e1]
      have hx : look s.power.R x = none := by rw [power_R]; exact hl
      have hc0 := hok.power.files
      have hc1 := hok.power.calls
      unfold str
      go_enter Try.func40, Try.ntmps40
      go_wp2_with (first
        | (go_at_call 55; refine hP.mono ?_; rintro e w1 ⟨rfl, hp1, hg1⟩)
        | (go_at_call 54; refine (find_no _ p F H s.power n hp1 hok.power hn x hx).mono ?_; rintro e w2 ⟨rfl, rfl⟩)
        | (go_at_call 56; refine (put_any _ p F H s.power n hp1 hok.power hn x ⟨DF.nil, none, 0⟩ (FVat.nil _ F H 0) hx).mono ?_; rintro e w3 ⟨rfl, F3, H3, hp3, hm3⟩)
        | (go_at_call 57; refine (well_any _ p F3 H3 _ hp3 (by dsimp only; omega) (by dsimp only; omega)).mono ?_; rintro e w4 ⟨rfl, hp4, hg4⟩))
      go_ret
      exact ⟨rfl, .trans ((Moved.same hg1).trans hm3) (.same hp4 hg4)⟩
theorem DRemove_any (h : DD w p F H s) (hok : s.ok n) (hn : n < 1000000) (x : Nm) :
    Calls Try.prog 48 #[.pointer (some ⟨p, 0, none⟩), str x] w (DPost w p F H (s.remove x)) := by
  obtain ⟨q, hq⟩ : ∃ q, s.power.off = q := ⟨_, rfl⟩
  have hP := dgone_at w p F H s n hq h hok
  cases q with
  | true =>
    have e1 : s.remove x = (34, s.power) := by simp [DK.remove, hq]
    rw [e1]
    go_enter Try.func48, Try.ntmps48
    go_wp2_with (go_at_call 55; refine hP.mono ?_; rintro e w1 ⟨rfl, hp1, hg1⟩)
    go_ret
    exact ⟨rfl, .same hp1 hg1⟩
  | false =>
    cases hl : look s.R x with
    | none =>
      have e1 : s.remove x = (31, s.power) := by simp [DK.remove, hq, DK.has, hl]
      rw [e1]
      have hx : look s.power.R x = none := by rw [power_R]; exact hl
      go_enter Try.func48, Try.ntmps48
      go_wp2_with (first
        | (go_at_call 55; refine hP.mono ?_; rintro e w1 ⟨rfl, hp1, hg1⟩)
        | (go_at_call 54; refine (find_no _ p F H s.power n hp1 hok.power hn x hx).mono ?_; rintro e w2 ⟨rfl, rfl⟩))
      go_ret
      exact ⟨rfl, .same hp1 hg1⟩
    | some f =>
      obtain ⟨k, hk⟩ := look_idx hl
      have e1 : s.remove x = (0, s.power.lay (delA s.power.R x)) := by simp [DK.remove, hq, DK.has, hl, power_R]
      rw [e1]
      have hx : s.power.R[k]? = some (x, f) := by rw [power_R]; exact hk
      have hc0 := hok.power.files
      have hc1 := hok.power.calls
      go_enter Try.func48, Try.ntmps48
      go_wp2_with (first
        | (go_at_call 55; refine hP.mono ?_; rintro e w1 ⟨rfl, hp1, hg1⟩)
        | (go_at_call 54; refine (find_at _ p F H s.power n hp1 hok.power hn x hx).mono ?_; rintro e w2 ⟨rfl, rfl⟩)
        | (go_at_call 59; refine (cut_any _ p F H s.power n hp1 hok.power hn hx).mono ?_; rintro e w3 ⟨rfl, F3, H3, hp3, hm3⟩)
        | (go_at_call 57; refine (well_any _ p F3 H3 _ hp3 (by dsimp only; omega) (by dsimp only; omega)).mono ?_; rintro e w4 ⟨rfl, hp4, hg4⟩))
      go_ret
      exact ⟨rfl, .trans ((Moved.same hg1).trans hm3) (.same hp4 hg4)⟩
/-- the file at an index, in memory -/
theorem DD.file (h : DD w p F H s) {k : Nat} {x : Nm} {f : DF} (hk : s.R[k]? = some (x, f)) : ∃ (g : Nat) (m c : Nat) (v : FV), At w p (boxD (some ⟨g, 0, none⟩) m c s) ∧ m = s.R.length ∧ k < m ∧ F g ∧ g ≠ p ∧ g < w.heap.size ∧ v.f = f ∧ FVat w F H v ∧
    (∃ G : List NF, EK.Row w g G ∧ mapN FV.f G = s.R ∧ G[k]? = some (x, v) ∧ (∀ q ∈ G, FVat w F H q.2) ∧ G.length = m ∧ m ≤ c ∧ c ≤ maxLen) ∧
    w.cell? ⟨g, k * 3, none⟩ = some (.string ⟨x.toArray⟩) ∧ w.cell? ⟨g, k * 3 + 1, none⟩ = some (.slice (adr v.g) f.b.length v.c) ∧ w.cell? ⟨g, k * 3 + 2, none⟩ = some (.int .i64 (f.s : Int)) := by
  obtain ⟨A, c, G, h1, h2, h3, h4, h5, h6, h7, h8, h9⟩ := h
  rw [f_at h5] at hk
  obtain ⟨q, hq⟩ : ∃ q, G[k]? = some q := by
    cases hq : G[k]? with
    | none => rw [hq] at hk; cases hk
    | some q => exact ⟨q, rfl⟩
  rw [hq] at hk
  obtain ⟨y, v⟩ := q
  simp only [Option.map_some, Option.some.injEq, Prod.mk.injEq] at hk
  obtain ⟨rfl, rfl⟩ := hk
  have hlt := (List.getElem?_eq_some_iff.1 hq).1
  rcases h2 with ⟨_, rfl, _⟩ | ⟨g, rfl, hF, hne, hr⟩
  · simp at hq
  obtain ⟨g', o, e, hg, c0, c1, c2⟩ := fileAt (ET.Row.sl hr) hq
  injection e with e
  injection e with e1 e2
  subst e1; subst e2
  rw [Nat.zero_add] at c0 c1 c2
  exact ⟨g, G.length, c, v, h1, by rw [← h5, mapN_len], hlt, hF, hne, hr.1, rfl, h6 _ (List.mem_of_getElem? hq), ⟨G, hr, h5, hq, h6, rfl, h3, h4⟩, c0, c1, c2⟩
theorem DSure_any (h : DD w p F H s) (hok : s.ok n) (hn : n < 1000000) (x : Nm) :
    Calls Try.prog 39 #[.pointer (some ⟨p, 0, none⟩), str x] w fun e w' => e = .returned (.int .i64 (s.sureOf x : Int)) ∧ w' = w := by
  cases hl : look s.R x with
  | none =>
    have e1 : s.sureOf x = 0 := by simp [DK.sureOf, hl]
    rw [e1]
    have hf := find_no w p F H s n h hok hn x hl
    go_enter Try.func39, Try.ntmps39
    go_wp2_with (go_at_call 54; refine hf.mono ?_; rintro e w2 ⟨rfl, rfl⟩)
    go_ret
    exact ⟨rfl, rfl⟩
  | some f =>
    obtain ⟨k, hk⟩ := look_idx hl
    have e1 : s.sureOf x = f.s := by simp [DK.sureOf, hl]
    rw [e1]
    have hf := find_at w p F H s n h hok hn x hk
    obtain ⟨g, m, c, v, hA, _, hkm, _, _, _, _, _, _, _, _, c2⟩ := DD.file w p F H s h hk
    have c1 := hA.c 1 rfl
    have hx0 : (0 : Int) ≤ (k : Int) := by omega
    have hx1 : (k : Int) < (m : Int) := by omega
    clear hA
    go_enter Try.func39, Try.ntmps39
    go_wp2_with (go_at_call 54; refine hf.mono ?_; rintro e w2 ⟨rfl, rfl⟩)
    go_ret
    exact ⟨rfl, rfl⟩
end
end Go.Proofs.Ythnbnhlfiehihaa
/- append behind a slice that is full: a fresh row. -/
namespace Go.Proofs.Ythnbnhlfiehihaa
open Go.RowKit

theorem run_appF (w : World) (ty : TypeId) {B B' : Nat} {A A' : Option Addr} {n m c cap : Nat} {l k : List UInt8} (hs : Sl w B A (bv l)) (hn : n = l.length) (hr : Sl w B' A' (bv k)) (hm : m = k.length)
    (hfull : cap < n + m) (hnil : A = none → n = 0 ∧ cap = 0) (hle : n ≤ cap) (hbytes : l.length + k.length ≤ 140737488355328) :
    ∃ v' w', (Builtin.append_ #[22, 22] ty #[.slice A n cap, .slice A' m c]).run Try.prog w = .ok v' w' ∧ OwnB w' w.heap.size v' (l ++ k) ∧ w.grownBy w' none := by
  subst hn hm
  obtain ⟨i, hi, hz, hz1, hz2⟩ := info_parts u8info
  have hkpos : 0 < k.length := by
    rcases Nat.eq_zero_or_pos k.length with h | h
    · omega
    · exact h
  obtain ⟨b', o', e', _, _, hc'⟩ := hr.at_ (k := 0) (by simpa using hkpos)
  subst e'
  have hadd : ∀ (b o j : Nat), (⟨b, o, none⟩ : Addr).add j = ⟨b, o + j, none⟩ := by
    intro b o j
    unfold Addr.add
    split
    · rename_i h0; subst h0; rfl
    · rfl
  cases A with
  | none =>
    obtain ⟨h0, rfl⟩ := hnil rfl
    have hl : l = [] := List.eq_nil_of_length_eq_zero h0
    subst hl
    obtain ⟨v', w', h1, h2, h3, _⟩ := run_app w ty (OwnB.nil w w.heap.size) hr (c := c) rfl hbytes (Nat.le_refl _)
    exact ⟨v', w', h1, h2, h3⟩
  | some a =>
    have holds : ∀ j u, (bv l)[j]? = some u → w.cell? (a.add j) = some u := by
      intro j u hu
      rcases hs with h | ⟨b, o, e, _, _, hc⟩
      · rw [h] at hu; cases hu
      · cases e
        rw [hadd]
        exact hc j u hu
    obtain ⟨v', w', hrun, h2, h3⟩ := run_append_arg_grows (P := Try.prog) w 22 ty 5 i (.int .u8 0) 1 1 Try.underlying22 hi hz hz1 hz2 rfl (by omega) a l.length cap (bv l) (by simp) holds
      ⟨b', o', none⟩ k.length c (bv k) (by simp) (fun j u hu => by rw [hadd]; exact hc' j u hu) hfull (by simp only [maxLen]; omega) (by omega)
    exact ⟨v', w', hrun, by simpa [OwnB] using h2, h3⟩
section
variable {ops : Array Oper} {rest : List Oper} {o : Oper} {a : Act} {Q : Exit → Act → World → Prop} {w : World} {s x : Operand}
theorem wp_appF {K : Act → World → Prop} (ho : o.op = .call { callee := .builtin .append, args := #[s, x], argTypes := #[22, 22] })
    {B B' : Nat} {A A' : Option Addr} {n m c cap : Nat} {l k : List UInt8} (hsl : Sl w B A (bv l)) (hn : n = l.length) (hr : Sl w B' A' (bv k)) (hm : m = k.length)
    (hs : a.eval s = .slice A n cap) (hx : a.eval x = .slice A' m c) (hfull : cap < n + m) (hnil : A = none → n = 0 ∧ cap = 0) (hle : n ≤ cap) (hbytes : l.length + k.length ≤ 140737488355328)
    (h : ∀ v' w', OwnB w' w.heap.size v' (l ++ k) → w.grownBy w' none → K (a.put o.dst v') w') : o.wp Try.prog a w K Q := by
  obtain ⟨v', w', hrun, h2, h3⟩ := run_appF w o.type hsl hn hr (c := c) hm hfull hnil hle hbytes
  unfold Oper.wp execOp
  simp only [ho, resolve, invoke, builtin, Sem.run_bind, Sem.run_pure, Result.andThen_ok, List.map_toArray, List.map_cons, List.map_nil, hs, hx, hrun]
  exact h v' w' h2 h3
theorem appF (hgd : o.guard = none) (ho : o.op = .call { callee := .builtin .append, args := #[s, x], argTypes := #[22, 22] })
    {B B' : Nat} {A A' : Option Addr} {n m c cap : Nat} {l k : List UInt8} (hsl : Sl w B A (bv l)) (hn : n = l.length) (hr : Sl w B' A' (bv k)) (hm : m = k.length)
    (hs : a.eval s = .slice A n cap) (hx : a.eval x = .slice A' m c) (hfull : cap < n + m) (hnil : A = none → n = 0 ∧ cap = 0) (hle : n ≤ cap) (hbytes : l.length + k.length ≤ 140737488355328)
    (h : ∀ v' w', OwnB w' w.heap.size v' (l ++ k) → w.grownBy w' none → wpList Try.prog ops Q rest (a.put o.dst v') w') : wpList Try.prog ops Q (o :: rest) a w :=
  wpList_plain hgd fun _ hK => wp_appF ho hsl hn hr hm hs hx hfull hnil hle hbytes fun v' w' h2 h3 => hK _ _ (h v' w' h2 h3)
end
end Go.Proofs.Ythnbnhlfiehihaa
/- Disks: the document's Read, Sync; a cell of the row turned. -/
namespace Go.Proofs.Ythnbnhlfiehihaa
open Go.RowKit Go.Maps
set_option maxRecDepth 20000

theorem dv_cell {P : Program} {t e : TypeId} {α : Type} (E : ET P t e α) : ∀ (l : List α) (k j : Nat) (q q' : α) (u : Value), l[k]? = some q → j < E.n → E.cells q' = (E.cells q).set j u → E.dv (l.set k q') = (E.dv l).set (k * E.n + j) u
  | [], _, _, _, _, _, h, _, _ => by simp at h
  | x :: l, 0, j, q, q', u, h, hj, hc => by
    obtain rfl : x = q := by simpa using h
    rw [List.set_cons_zero, ET.dv_cons, ET.dv_cons, hc, Nat.zero_mul, Nat.zero_add, List.set_append_left _ _ (by rw [E.len]; exact hj)]
  | x :: l, k + 1, j, q, q', u, h, hj, hc => by
    have hmul : (k + 1) * E.n = k * E.n + E.n := by rw [Nat.add_mul]; omega
    rw [List.set_cons_succ, ET.dv_cons, ET.dv_cons, dv_cell E l k j q q' u (by simpa using h) hj hc, List.set_append_right _ _ (by rw [E.len]; omega), E.len]
    congr 2
    omega
/-- one cell of the row turned -/
theorem ddp_cell {w w6 : World} {p g k j m c : Nat} {F H : Nat → Prop} {s s' : DK} {G : List NF} {x : Nm} {v v' : FV} {u : Value} (hF : DD w p F H s) (hAG : At w p (boxD (some ⟨g, 0, none⟩) m c s)) (hg : F g) (hgp : g ≠ p) (hrow : EK.Row w g G) (hq : G[k]? = some (x, v)) (hvs : ∀ q ∈ G, FVat w F H q.2)
    (hm : G.length = m) (hmc : m ≤ c) (hcm : c ≤ maxLen) (hb6 : Below w.heap.size w w6) (hj : j < 3) (hc : NF.cells (x, v') = (NF.cells (x, v)).set j u) (hv' : FVat w6 F (HN H w w6) v') (hbx : boxD (some ⟨g, 0, none⟩) m c s = boxD (some ⟨g, 0, none⟩) m c s') (hR : mapN FV.f (G.set k (x, v')) = s'.R) :
    DDP w p F H s' (w6.setCell ⟨g, k * 3 + j, none⟩ u) := by
  have hFd := hF.fd
  have hlt := hF.lt
  have hfh := fun k => hF.fh (k := k)
  have hgr : Grew F w (w6.setCell ⟨g, k * 3 + j, none⟩ u) := (Grew.below hb6).put (.inl hg) _
  have hgr' : Grew (fun i => i = g) w (w6.setCell ⟨g, k * 3 + j, none⟩ u) := (Grew.below hb6).put (S := fun i => i = g) (.inl rfl) _
  have hgr6 : Grew (fun i => i = g) w6 (w6.setCell ⟨g, k * 3 + j, none⟩ u) := (Grew.refl _ w6).put (S := fun i => i = g) (.inl rfl) _
  have hlen : (G.set k (x, v')).length = m := by rw [List.length_set]; exact hm
  have hrow6 : EK.Row w6 g G := hrow.below hb6
  have hrow7 : EK.Row (w6.setCell ⟨g, k * 3 + j, none⟩ u) g (G.set k (x, v')) := by
    show At _ g (EK.dv (G.set k (x, v')))
    rw [dv_cell EK G k j (x, v) (x, v') u hq hj hc]
    refine At.set hrow6 _ _ ?_
    have h1 := (List.getElem?_eq_some_iff.1 hq).1
    rw [EK.dv_len]
    show k * 3 + j < G.length * 3
    omega
  refine ⟨F, HN H w w6, ⟨some ⟨g, 0, none⟩, c, G.set k (x, v'), ?_, .inr ⟨g, rfl, hg, hgp, hrow7⟩, by rw [hlen]; exact hmc, hcm, hR, fun q hq' => ?_, hFd, fun i hi => .inl (hfh i hi), fun i hi => ?_⟩, fun _ => .inl, fun i hi => ?_, hgr⟩
  · rw [hlen]
    have := (hAG.below hb6).set_other (k * 3 + j) u hgp
    rw [hbx] at this
    exact this
  · have h6 : FVat w6 F (HN H w w6) q.2 := by
      rcases List.mem_or_eq_of_mem_set hq' with h | h
      · exact (FVat.mono (hvs q h) (fun _ => .inl) (fun _ _ => id)).grew (S := fun _ => False) (Grew.below hb6) (fun _ _ _ => id)
      · rw [h]; exact hv'
    exact h6.grew hgr6 (fun i _ hFi e => hFi (e ▸ hg))
  · have : i < w6.heap.size := by
      rcases hi with hi | hi
      · exact Nat.lt_of_lt_of_le (hlt i hi) hb6.size
      · exact hi.2
    simpa using this
  · rcases hi with hi | hi
    · exact .inl hi
    · exact .inr hi.1
theorem DDP.drew {w w' : World} {d : Nat} {F H : Nat → Prop} {s' : DK} (h : DDP w d F H s' w') : DDP w d F H s' w'.drew := by
  obtain ⟨F', H', h1, h2⟩ := h
  exact ⟨F', H', h1.drew, h2.f, h2.h, h2.g.drew⟩
theorem file_set {G : List NF} {R : DR} {k : Nat} {x : Nm} {v v' : FV} (hr : RiseN R) (hG : mapN FV.f G = R) (hq : G[k]? = some (x, v)) : mapN FV.f (G.set k (x, v')) = putN R x v'.f := by
  have h1 : R[k]? = some (x, v.f) := by rw [f_at hG, hq]; rfl
  rw [← put_at hr h1, ← hG, mapN, mapN, List.map_set]
theorem row_c {w4 W : World} {g p k j : Nat} {b : List Value} {G : List NF} {q : NF} {u : Value} (h : QD w4 g p (EK.dv G) b W) (hq : G[k]? = some q) (hj : j < 3) (hu : (NF.cells q)[j]? = some u) : W.cell? ⟨g, k * 3 + j, none⟩ = some u :=
  h.1.c (k * 3 + j) ((EK.dv_get G k j q hq hj).trans hu)
theorem row_f {w4 W : World} {g p k j : Nat} {b : List Value} {G : List NF} {q : NF} {u : Value} (h : QD w4 g p (EK.dv G) b W) (hq : G[k]? = some q) (hj : j < 3) (hu : (NF.cells q)[j]? = some u) : W.frozen? ⟨g, k * 3 + j, none⟩ = false :=
  h.1.f (k * 3 + j) ((EK.dv_get G k j q hq hj).trans hu)
section
variable (w : World) (p : Nat) (F H : Nat → Prop) (s : DK) (n : Nat)
theorem DRead_any (h : DD w p F H s) (hok : s.ok n) (hn : n < 1000000) (x : Nm) :
    Calls Try.prog 38 #[.pointer (some ⟨p, 0, none⟩), str x] w (ReadPost w (s.read x)) := by
  cases hl : look s.R x with
  | none =>
    have e1 : s.read x = ([], false) := by simp [DK.read, DK.has, hl]
    rw [e1]
    have hf := find_no w p F H s n h hok hn x hl
    clear h
    go_enter Try.func38, Try.ntmps38
    go_wp2_with (go_at_call 54; refine hf.mono ?_; rintro e w2 ⟨rfl, rfl⟩)
    go_ret2
    exact ⟨none, 0, rfl, .inl rfl, (fun a h => (by cases h)), Below.refl _ _⟩
  | some f =>
    obtain ⟨k, hk⟩ := look_idx hl
    have hf := find_at w p F H s n h hok hn x hk
    obtain ⟨g, m, c, v, hA, _, hkm, _, _, _, hvf, hv, _, _, c1, _⟩ := DD.file w p F H s h hk
    have b1 := hA.c 1 rfl
    have b5 := hA.c 5 rfl
    have hx0 : (0 : Int) ≤ (k : Int) := by omega
    have hx1 : (k : Int) < (m : Int) := by omega
    have hol := old_le hok x
    have hU := hok.used
    have hR := hok.room
    have hfo : s.fileOf x = f := by simp [DK.fileOf, hl]
    rw [hfo] at hol
    have hsl := hv.1
    rw [hvf] at hsl
    clear hA hv hvf h
    obtain ⟨off, ho⟩ : ∃ off, s.off = off := ⟨_, rfl⟩
    rw [ho] at b5
    cases off with
    | true =>
      have e1 : s.read x = ([], false) := by simp [DK.read, ho]
      rw [e1]
      go_enter Try.func38, Try.ntmps38
      go_wp2_with (go_at_call 54; refine hf.mono ?_; rintro e w2 ⟨rfl, rfl⟩)
      go_ret2
      exact ⟨none, 0, rfl, .inl rfl, (fun a h => (by cases h)), Below.refl _ _⟩
    | false =>
      have e1 : s.read x = (f.b, true) := by simp [DK.read, ho, DK.has, hl]
      rw [e1]
      obtain ⟨L, hL⟩ : ∃ L, f.b.length = L := ⟨_, rfl⟩
      rw [hL] at c1 hol
      have HS := Lib.hid (And.intro hsl hL)
      clear hsl hL
      go_enter Try.func38, Try.ntmps38
      go_wp2_with (first
        | (go_at_call 54; refine hf.mono ?_; rintro e w2 ⟨rfl, rfl⟩)
        | (refine app (by rfl) (by rfl) (OwnB.nil w2 w2.heap.size) HS.out.1 HS.out.2.symm (by rfl) (by rfl) (by rw [HS.out.2]; simp; omega) (Nat.le_refl _) ?_; intro v3 w3 hown3 hg3 hat3; obtain ⟨A3, c3, rfl, _, _, hs3, _, ha3⟩ := hown3.form; have hb3 := belowN hg3))
      go_ret2
      exact ⟨A3, c3, rfl, hs3, (fun a h => (ha3 a h).1), hb3⟩
set_option maxRecDepth 100000 in
set_option maxHeartbeats 1600000 in
theorem DSync_any (h : DD w p F H s) (hok : s.ok n) (hn : n < 1000000) (x : Nm) :
    Calls Try.prog 42 #[.pointer (some ⟨p, 0, none⟩), str x] w (DPost w p F H (s.sync x)) := by
  obtain ⟨q, hq⟩ : ∃ q, s.power.off = q := ⟨_, rfl⟩
  have hP := dgone_at w p F H s n hq h hok
  cases q with
  | true =>
    have e1 : s.sync x = (34, s.power) := by simp [DK.sync, hq]
    rw [e1]
    go_enter Try.func42, Try.ntmps42
    go_wp2_with (go_at_call 55; refine hP.mono ?_; rintro e w1 ⟨rfl, hp1, hg1⟩)
    go_ret
    exact ⟨rfl, .same hp1 hg1⟩
  | false =>
    cases hl : look s.R x with
    | none =>
      have e1 : s.sync x = (31, s.power) := by simp [DK.sync, hq, DK.has, hl]
      rw [e1]
      have hx : look s.power.R x = none := by rw [power_R]; exact hl
      go_enter Try.func42, Try.ntmps42
      go_wp2_with (first
        | (go_at_call 55; refine hP.mono ?_; rintro e w1 ⟨rfl, hp1, hg1⟩)
        | (go_at_call 54; refine (find_no _ p F H s.power n hp1 hok.power hn x hx).mono ?_; rintro e w2 ⟨rfl, rfl⟩))
      go_ret
      exact ⟨rfl, .same hp1 hg1⟩
    | some f =>
      obtain ⟨k, hk⟩ := look_idx hl
      have e1 : s.sync x = (0, s.power.lay (putN s.power.R x f.sync)) := by simp [DK.sync, hq, DK.has, hl, power_R, mapR]
      rw [e1]
      have hx : s.power.R[k]? = some (x, f) := by rw [power_R]; exact hk
      have hc0 := hok.power.files
      have hc1 := hok.power.calls
      have hx0 : (0 : Int) ≤ (k : Int) := by omega
      go_enter Try.func42, Try.ntmps42
      go_wp2_with (first
        | (go_at_call 55; refine hP.mono ?_; rintro e w1 ⟨rfl, hp1, hg1⟩)
        | (go_at_call 54; refine (find_at _ p F H s.power n hp1 hok.power hn x hx).mono ?_; rintro e w2 ⟨rfl, rfl⟩))
      obtain ⟨g, m, c, v, hA, -, hkm, hFg, hgp, hgl, rfl, hv, ⟨G, hrow, hG, hGk, hvs, hGm, hmc, hcm⟩, -⟩ := DD.file _ p F H s.power hp1 hx
      have hx1 : (k : Int) < (m : Int) := by omega
      have hpl := hA.1
      have HD := Lib.hid (And.intro hp1 (And.intro hA (And.intro hFg (And.intro hgp (And.intro hrow (And.intro hG (And.intro hGk (And.intro hvs (And.intro hGm (And.intro hmc (And.intro hcm (And.intro hv hg1))))))))))))
      have hS0 : QD w2 g p (EK.dv G) (boxD (some ⟨g, 0, none⟩) m c s.power) w2.drew := ⟨hrow, hA, Nat.le_refl _⟩
      have zc := row_c (j := 2) hS0 hGk (by omega) rfl
      have zf := row_f (j := 2) hS0 hGk (by omega) rfl
      have e4 : ∀ W, QD w2 g p (EK.dv G) (boxD (some ⟨g, 0, none⟩) m c s.power) W → W.cell? ⟨p, 1, none⟩ = some (.slice (some ⟨g, 0, none⟩) m c) := fun W h => h.2.1.c 1 rfl
      have e5 : ∀ W, QD w2 g p (EK.dv G) (boxD (some ⟨g, 0, none⟩) m c s.power) W → W.cell? ⟨g, k * 3 + 1, none⟩ = some (.slice (adr v.g) v.f.b.length v.c) := fun W h => row_c h HD.out.2.2.2.2.2.2.1 (by omega) rfl
      clear hp1 hA hFg hgp hrow hG hGk hvs hGm hmc hcm hv hg1 hP
      refine bstartE (QD w2 g p (EK.dv G) (boxD (some ⟨g, 0, none⟩) m c s.power)) 16 (by kernel_rfl) ?_
      refine btakeE 0 [] (oi := _) (v := ?_) (by simp only [List.getElem?_toArray, List.getElem?_cons_zero]; rfl) (by kernel_rfl) (by exact fun _ _ _ h => h) (by first | assumption | exact KB.refl _) (.inl ⟨by rfl, fun W hW => ?_⟩) ?_; rotate_left
      · (go_simp; first | done | with_reducible rfl)
      try simp only [Act.put, List.setIfInBounds_toArray, List.set_cons_zero, List.set_cons_succ]
      refine btakeE 1 [] (oi := _) (v := ?_) (by simp only [List.getElem?_toArray, List.getElem?_cons_succ, List.getElem?_cons_zero]; rfl) (by kernel_rfl) (by exact fun _ _ _ h => h) (by first | assumption | exact KB.refl _) (.inl ⟨by rfl, fun W hW => ?_⟩) ?_; rotate_left
      · (go_simp; first | done | with_reducible rfl)
      try simp only [Act.put, List.setIfInBounds_toArray, List.set_cons_zero, List.set_cons_succ]
      refine btakeE 2 [] (oi := _) (v := ?_) (by simp only [List.getElem?_toArray, List.getElem?_cons_succ, List.getElem?_cons_zero]; rfl) (by kernel_rfl) (by exact fun _ _ _ h => h) (by first | assumption | exact KB.refl _) (.inl ⟨by rfl, fun W hW => ?_⟩) ?_; rotate_left
      · (go_simp; first | done | with_reducible rfl)
      try simp only [Act.put, List.setIfInBounds_toArray, List.set_cons_zero, List.set_cons_succ]
      refine btakeE 3 [] (oi := _) (v := ?_) (by simp only [List.getElem?_toArray, List.getElem?_cons_succ, List.getElem?_cons_zero]; rfl) (by kernel_rfl) (by exact fun _ _ _ h => h) (by first | assumption | exact KB.refl _) (.inl ⟨by rfl, fun W hW => ?_⟩) ?_; rotate_left
      · (go_simp; first | done | with_reducible rfl)
      try simp only [Act.put, List.setIfInBounds_toArray, List.set_cons_zero, List.set_cons_succ]
      refine btakeE 4 [] (oi := _) (v := ?_) (by simp only [List.getElem?_toArray, List.getElem?_cons_succ, List.getElem?_cons_zero]; rfl) (by kernel_rfl) (by exact fun _ _ _ h => h) (by first | assumption | exact KB.refl _) (.inl ⟨by rfl, fun W hW => ?_⟩) ?_; rotate_left
      · (go_simp; first | done | with_reducible rfl)
      try simp only [Act.put, List.setIfInBounds_toArray, List.set_cons_zero, List.set_cons_succ]
      refine btakeE 5 [] (oi := _) (v := ?_) (by simp only [List.getElem?_toArray, List.getElem?_cons_succ, List.getElem?_cons_zero]; rfl) (by kernel_rfl) (by exact fun _ _ _ h => h) (by first | assumption | exact KB.refl _) (.inl ⟨by rfl, fun W hW => ?_⟩) ?_; rotate_left
      · (go_simp; first | done | with_reducible rfl)
      try simp only [Act.put, List.setIfInBounds_toArray, List.set_cons_zero, List.set_cons_succ]
      refine btakeE 6 [] (oi := _) (v := ?_) (by simp only [List.getElem?_toArray, List.getElem?_cons_succ, List.getElem?_cons_zero]; rfl) (by kernel_rfl) (by exact fun _ _ _ h => h) (by first | assumption | exact KB.refl _) (.inl ⟨by rfl, fun W hW => ?_⟩) ?_; rotate_left
      · (go_simp; first | done | with_reducible rfl)
      try simp only [Act.put, List.setIfInBounds_toArray, List.set_cons_zero, List.set_cons_succ]
      refine btakeE 7 [] (oi := _) (v := ?_) (by simp only [List.getElem?_toArray, List.getElem?_cons_succ, List.getElem?_cons_zero]; rfl) (by kernel_rfl) (by exact fun _ _ _ h => h) (by first | assumption | exact KB.refl _) (.inl ⟨by rfl, fun W hW => ?_⟩) ?_; rotate_left
      · (go_simp; first | done | with_reducible rfl)
      try simp only [Act.put, List.setIfInBounds_toArray, List.set_cons_zero, List.set_cons_succ]
      refine btakeE 8 [] (oi := _) (v := ?_) (by simp only [List.getElem?_toArray, List.getElem?_cons_succ, List.getElem?_cons_zero]; rfl) (by kernel_rfl) (by exact fun _ _ _ h => h) (by first | assumption | exact KB.refl _) (.inl ⟨by rfl, fun W hW => ?_⟩) ?_; rotate_left
      · (go_simp; first | done | with_reducible rfl)
      try simp only [Act.put, List.setIfInBounds_toArray, List.set_cons_zero, List.set_cons_succ]
      refine btakeE 9 [] (oi := _) (v := ?_) (by simp only [List.getElem?_toArray, List.getElem?_cons_succ, List.getElem?_cons_zero]; rfl) (by kernel_rfl) (by exact fun _ _ _ h => h) (by first | assumption | exact KB.refl _) (.inl ⟨by rfl, fun W hW => ?_⟩) ?_; rotate_left
      · (go_simp; first | done | with_reducible rfl)
      try simp only [Act.put, List.setIfInBounds_toArray, List.set_cons_zero, List.set_cons_succ]
      refine btakeE 10 [] (oi := _) (v := ?_) (by simp only [List.getElem?_toArray, List.getElem?_cons_succ, List.getElem?_cons_zero]; rfl) (by kernel_rfl) (by exact fun _ _ _ h => h) (by first | assumption | exact KB.refl _) (.inl ⟨by rfl, fun W hW => ?_⟩) ?_; rotate_left
      · (go_simp; first | done | with_reducible rfl)
      try simp only [Act.put, List.setIfInBounds_toArray, List.set_cons_zero, List.set_cons_succ]
      refine btakeE 11 [] (oi := _) (v := ?_) (by simp only [List.getElem?_toArray, List.getElem?_cons_succ, List.getElem?_cons_zero]; rfl) (by kernel_rfl) (by exact fun _ _ _ h => h) (by first | assumption | exact KB.refl _) (.inl ⟨by rfl, fun W hW => ?_⟩) ?_; rotate_left
      · (go_simp; first | done | with_reducible rfl)
      try simp only [Act.put, List.setIfInBounds_toArray, List.set_cons_zero, List.set_cons_succ]
      refine btakeE 12 [] (oi := _) (v := ?_) (by simp only [List.getElem?_toArray, List.getElem?_cons_succ, List.getElem?_cons_zero]; rfl) (by kernel_rfl) (by exact fun _ _ _ h => h) (by first | assumption | exact KB.refl _) (.inl ⟨by rfl, fun W hW => ?_⟩) ?_; rotate_left
      · (go_simp; first | done | with_reducible rfl)
      try simp only [Act.put, List.setIfInBounds_toArray, List.set_cons_zero, List.set_cons_succ]
      refine btakeE 13 [] (oi := _) (v := ?_) (by simp only [List.getElem?_toArray, List.getElem?_cons_succ, List.getElem?_cons_zero]; rfl) (by kernel_rfl) (by exact fun _ _ _ h => h) (by first | assumption | exact KB.refl _) (.inl ⟨by rfl, fun W hW => ?_⟩) ?_; rotate_left
      · (go_simp; first | done | with_reducible rfl)
      try simp only [Act.put, List.setIfInBounds_toArray, List.set_cons_zero, List.set_cons_succ]
      refine btakeE 14 [15] (oi := _) (v := ?_) (by simp only [List.getElem?_toArray, List.getElem?_cons_succ, List.getElem?_cons_zero]; rfl) (by kernel_rfl) (by exact fun _ _ _ h => h) (by first | assumption | exact KB.refl _) (.inl ⟨by rfl, fun W hW => ?_⟩) ?_; rotate_left
      · (go_simp; first | done | with_reducible rfl)
      try simp only [Act.put, List.setIfInBounds_toArray, List.set_cons_zero, List.set_cons_succ]
      refine btakeE 15 [] (oi := _) (v := ?_) (by simp only [List.getElem?_toArray, List.getElem?_cons_succ, List.getElem?_cons_zero]; rfl) (by kernel_rfl) (by exact fun _ _ _ h => h) (by first | assumption | exact KB.refl _) (.inl ⟨by rfl, fun W hW => ?_⟩) ?_; rotate_left
      · (go_simp; first | done | with_reducible rfl)
      try simp only [Act.put, List.setIfInBounds_toArray, List.set_cons_zero, List.set_cons_succ]
      -- 16: Op.store 3 (Operand.tmp 28) (Operand.tmp 26)
      refine blastE 16 (o := _) (by simp only [List.getElem?_toArray, List.getElem?_cons_succ, List.getElem?_cons_zero]; rfl) (by kernel_rfl) (by rfl) (by rfl) (fun K hK => ?_)
      go_simp
      skip
      refine hK.out _ _ ?_; clear hK K
      try simp only [Act.put, List.setIfInBounds_toArray, List.set_cons_zero, List.set_cons_succ]
      refine bdoneE (by kernel_rfl) ?_
      clear zc zf e4 e5 hS0
      obtain ⟨hp1, hA, hFg, hgp, hrow, hG, hGk, hvs, hGm, hmc, hcm, hv, hg1⟩ := HD.out
      obtain ⟨F3, H3, hp3, hm3⟩ := (ddp_cell (w6 := w2) (s' := { s.power with R := putN s.power.R x v.f.sync }) (v' := ⟨v.f.sync, v.g, v.c⟩) (j := 2) (u := .int .i64 (v.f.b.length : Int)) hp1 hA hFg hgp hrow hGk hvs hGm hmc hcm (Below.refl _ _) (by omega) rfl (FVat.mono (v := ⟨v.f.sync, v.g, v.c⟩) hv (fun _ => .inl) (fun _ _ => id)) rfl (file_set hok.power.rise hG hGk)).drew
      clear hp1 hA hFg hgp hrow hG hGk hvs hGm hmc hcm hv HD
      go_wp2_with (go_at_call 57; refine (well_any _ p F3 H3 _ hp3 (by dsimp only; omega) (by dsimp only; omega)).mono ?_; rintro e w4 ⟨rfl, hp4, hg4⟩)
      go_ret
      exact ⟨rfl, .trans ((Moved.same hg1).trans hm3) (.same hp4 hg4)⟩
end
end Go.Proofs.Ythnbnhlfiehihaa
/- Slices of bytes taken in a drawn region; calls that change nothing. -/
namespace Go.Proofs.Ythnbnhlfiehihaa
open Go.RowKit
set_option maxRecDepth 20000

theorem slB (A : Option Addr) (m c j : Nat) (hj : j ≤ c) (w : World) :
    (Instr.sliceAt 22 (.slice A m c) none (some (.int .i64 (j : Int))) (some (.int .i64 (j : Int)))).run Try.prog w = .ok (.slice A j j) w := by
  obtain ⟨i, hi, hz, hz1, hz2⟩ := info_parts u8info
  have e : A.map (fun x => x.add 0) = A := by cases A <;> simp [addr_zero]
  simp [Instr.sliceAt, Instr.slice, run_underlying Try.underlying22, Instr.sliceBounds, Instr.sliceBound, asIntOf, Go.sizeOf, typeInfo, hi]
  rw [if_pos hj, e]
  simp
theorem slB1 (A : Option Addr) (m c j : Nat) (hj : j ≤ c) (w : World) :
    (Instr.sliceAt 22 (.slice A m c) none (some (.int .i64 (j : Int))) none).run Try.prog w = .ok (.slice A j c) w := by
  obtain ⟨i, hi, hz, hz1, hz2⟩ := info_parts u8info
  have e : A.map (fun x => x.add 0) = A := by cases A <;> simp [addr_zero]
  simp [Instr.sliceAt, Instr.slice, run_underlying Try.underlying22, Instr.sliceBounds, Instr.sliceBound, asIntOf, Go.sizeOf, typeInfo, hi]
  rw [if_pos hj, e]
  simp
theorem exec_preB {o : Oper} {a : Act} {x y z : Operand} (ho : o.op = .slice 22 x none (some y) (some z)) {A : Option Addr} {m c j : Nat} (hx : a.eval x = .slice A m c) (hy : a.eval y = .int .i64 (j : Int)) (hz : a.eval z = .int .i64 (j : Int)) (hj : j ≤ c) (w : World) :
    (execOp a.eval o).run Try.prog w = .ok (.value (.slice A j j)) w := by
  have h := slB A m c j hj w
  simp [execOp, ho, hx, hy, hz, h]
theorem exec_pre1B {o : Oper} {a : Act} {x y : Operand} (ho : o.op = .slice 22 x none (some y) none) {A : Option Addr} {m c j : Nat} (hx : a.eval x = .slice A m c) (hy : a.eval y = .int .i64 (j : Int)) (hj : j ≤ c) (w : World) :
    (execOp a.eval o).run Try.prog w = .ok (.value (.slice A j c)) w := by
  have h := slB1 A m c j hj w
  simp [execOp, ho, hx, hy, h]
theorem quietQ {f : Nat} {args : Array Value} {v : Value} {W : World} (h : Calls Try.prog f args W fun e w' => e = .returned v ∧ w' = W) : Calls Try.prog f args W fun e w' => e = .returned v ∧ W = w' := h.mono fun _e _w' h => ⟨h.1, h.2.symm⟩
end Go.Proofs.Ythnbnhlfiehihaa
