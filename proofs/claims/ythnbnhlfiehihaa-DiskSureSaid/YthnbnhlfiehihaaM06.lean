/- Disks: the document's put, cut. -/
import Derived.Test.YthnbnhlfiehihaaM03
import Derived.Test.YthnbnhlfiehihaaM05
namespace Go.Proofs.Ythnbnhlfiehihaa
open Go.RowKit Go.Maps
set_option maxRecDepth 20000

theorem belowN {w w' : World} (hg : w.grownBy w' none) : Below w.heap.size w w' := ⟨hg.os, hg.tape, hg.output, hg.size, fun k hk => hg.block k hk (fun e => by cases e)⟩
theorem bytesLess_nm : ∀ (x y : Nm), Op.bytesLess x y = decide (x < y)
  | [], [] => by simp [Op.bytesLess]
  | _ :: _, [] => by simp [Op.bytesLess]
  | [], _ :: _ => by simp [Op.bytesLess]
  | a :: x, b :: y => by
    rw [Op.bytesLess, bytesLess_nm x y]
    simp only [List.cons_lt_cons_iff, Bool.decide_or, Bool.decide_and]
    rfl
theorem less_nm (w : World) (x y : Nm) : (binOp .lss 9 (.string ⟨x.toArray⟩) (.string ⟨y.toArray⟩)).run Try.prog w = .ok (.bool (decide (x < y))) w := by
  rw [binOp_string_lss, ByteArray.toList_eq, ByteArray.toList_eq, bytesLess_nm]
  rfl
theorem ex_lssN {o : Oper} {a : Act} {w : World} {p q : Operand} (ho : o.op = .binOp .lss 9 p q 9) {x y : Nm} (hx : a.eval p = .string ⟨x.toArray⟩) (hy : a.eval q = .string ⟨y.toArray⟩) : (execOp a.eval o).run Try.prog w = .ok (.value (.bool (decide (x < y)))) w := by
  have hb := less_nm w x y
  simp only [execOp, ho, hx, hy, Sem.run_bind, eqGuard_lss, Sem.run_pure, hb, Result.andThen_ok]
/-- what a call on the document's disk leaves -/
def DDP (w : World) (d : Nat) (F H : Nat → Prop) (s' : DK) (w' : World) : Prop := ∃ F' H' : Nat → Prop, DD w' d F' H' s' ∧ Moved F H F' H' w w'
theorem DDP.same {w w' : World} {d : Nat} {F H : Nat → Prop} {s' : DK} (h : DD w' d F H s') (hg : Grew F w w') : DDP w d F H s' w' := ⟨F, H, h, fun _ => .inl, fun _ => .inl, hg⟩
/-- a row of its own laid anew -/
theorem ddp_new {w w6 : World} {d n6 c6 B : Nat} {F H : Nat → Prop} {s s' : DK} {A6 : Option Addr} {A0 : Option Addr} {l0 c0 : Nat} {G' : List NF} (hF : DD w d F H s) (hb6 : Below w.heap.size w w6)
    (hown : EK.Own w6 B (.slice A6 n6 c6) G') (hB : w.heap.size ≤ B) (hAt : At w6 d (boxD A0 l0 c0 s')) (hn6 : n6 = G'.length) (hR : mapN FV.f G' = s'.R) (hv : ∀ q ∈ G', FVat w F H q.2) (hnil : A6 = none → G' = [] ∧ c6 = 0) :
    DDP w d F H s' (w6.setCell ⟨d, 1, none⟩ (.slice A6 n6 c6)) := by
  subst hn6
  have hFd := hF.fd
  have hdlt := hF.lt d (hF.fh hFd)
  have hlt := hF.lt
  have hbox : At (w6.setCell ⟨d, 1, none⟩ (.slice A6 G'.length c6)) d (boxD A6 G'.length c6 s') := hAt.set 1 (.slice A6 G'.length c6) (by simp [boxD])
  have hgr : Grew F w (w6.setCell ⟨d, 1, none⟩ (.slice A6 G'.length c6)) := (Grew.below hb6).put (.inl hFd) _
  cases A6 with
  | none =>
    obtain ⟨rfl, rfl⟩ := hnil rfl
    refine ⟨fun i => i = d, fun i => i = d ∨ H i, ⟨none, 0, [], hbox, .inl ⟨rfl, rfl, rfl⟩, Nat.le_refl _, Nat.zero_le _, hR, fun q hq => (List.not_mem_nil hq).elim, rfl, fun k hk => .inl hk, fun k hk => ?_⟩, fun i hi => .inl (hi ▸ hFd), fun i hi => ?_, hgr⟩
    · rcases hk with rfl | hk
      · exact Nat.lt_of_lt_of_le hdlt hgr.size
      · exact Nat.lt_of_lt_of_le (hlt k hk) hgr.size
    · rcases hi with rfl | hi
      · exact .inl (hF.fh hFd)
      · exact .inl hi
  | some a =>
    obtain ⟨A, c, e, hle, hcm, _, _, ha⟩ := hown.form
    injection e with e1 _ e3
    subst e1; subst e3
    obtain ⟨ha1, ha2, ha3⟩ := ha a rfl
    obtain ⟨g, o, sp⟩ := a
    dsimp only at ha1 ha2 ha3
    subst ha2; subst ha3
    have hrow := hown.row
    have hgd : g ≠ d := by omega
    refine ⟨fun i => i = d ∨ i = g, fun i => i = d ∨ i = g ∨ H i, ⟨_, c6, G', hbox, .inr ⟨g, rfl, .inr rfl, hgd, At.set_other hrow 1 _ (fun h => hgd h.symm)⟩, hle, hcm, hR, fun q hq => ?_, .inl rfl, fun k hk => hk.elim .inl (fun h => .inr (.inl h)), fun k hk => ?_⟩, fun i hi => ?_, fun i hi => ?_, hgr⟩
    · have h1 := (hv q hq).mono (F' := fun i => i = d ∨ i = g) (H' := fun i => i = d ∨ i = g ∨ H i) (fun k hk => .inr (.inr hk)) (fun k hk hk2 => by
        rcases hk2 with rfl | rfl
        · exact hFd
        · omega)
      exact h1.grew ((Grew.below hb6).put (S := fun k => k = d) (.inl rfl) _) (fun k hk hnk hFk => hnk (.inl hFk))
    · rcases hk with rfl | rfl | hk
      · exact Nat.lt_of_lt_of_le hdlt hgr.size
      · have := hrow.1; simpa using this
      · exact Nat.lt_of_lt_of_le (hlt k hk) hgr.size
    · rcases hi with rfl | rfl
      · exact .inl hFd
      · exact .inr (by omega)
    · rcases hi with rfl | rfl | hi
      · exact .inl (hF.fh hFd)
      · exact .inr (by omega)
      · exact .inl hi
def QD (w4 : World) (n d : Nat) (u b : List Value) (W : World) : Prop := At W n u ∧ At W d b ∧ w4.heap.size ≤ W.heap.size
theorem QD.grow {w4 W W' : World} {n d : Nat} {u b : List Value} (h : QD w4 n d u b W) (hb : Below w4.heap.size W W') (hn : n < w4.heap.size) (hd : d < w4.heap.size) : QD w4 n d u b W' :=
  ⟨h.1.belowB hn hb hb.size, h.2.1.belowB hd hb hb.size, Nat.le_trans h.2.2 hb.size⟩
theorem NF.at_ {w : World} {g : Nat} {q : NF} (h : At w g (NF.cells q)) : w.cell? ⟨g, 0, none⟩ = some (.string ⟨q.1.toArray⟩) ∧ w.cell? ⟨g, 1, none⟩ = some (.slice (adr q.2.g) q.2.f.b.length q.2.c) ∧ w.cell? ⟨g, 2, none⟩ = some (.int .i64 (q.2.f.s : Int)) := ⟨h.c 0 rfl, h.c 1 rfl, h.c 2 rfl⟩
set_option maxRecDepth 100000 in
set_option maxHeartbeats 3200000 in
theorem put_any (w : World) (d : Nat) (F H : Nat → Prop) (s : DK) (n : Nat) (h : DD w d F H s) (hok : s.ok n) (hn : n < 1000000) (x : Nm) (v : FV) (hv : FVat w F H v) (hx : look s.R x = none) :
    Calls Try.prog 56 #[.pointer (some ⟨d, 0, none⟩), .agg #[str x, .slice (adr v.g) v.f.b.length v.c, .int .i64 (v.f.s : Int)]] w fun e w' => e = .returned (.tuple #[]) ∧ DDP w d F H { s with R := putN s.R x v.f } w' := by
  have HF := Lib.hid (And.intro h (And.intro hv (And.intro hx hok.rise)))
  have hb1 : ∀ o, Below w.heap.size w (w.alloc o) := fun o => (Below.refl _ w).alloc (Nat.le_refl _) o
  obtain ⟨A, c, G, h1, hsl, hc, hcm, hnil, hG, hvs⟩ := h.sl
  have hlen : (G.length : Int) ≤ n := by
    have h1 := hok.files
    have h2 := hok.calls
    rw [← hG, mapN_len] at h1
    omega
  have hdl := h1.1
  obtain ⟨m, hm⟩ : ∃ m, G.length = m := ⟨_, rfl⟩
  rw [hm] at h1 hc hlen
  have hbox : At (w.alloc (.cells #[str x, .slice (adr v.g) v.f.b.length v.c, .int .i64 (v.f.s : Int)] 79)) w.heap.size (NF.cells (x, v)) := At.new w 79 _
  have hq1 := h1.below (hb1 (.cells #[str x, .slice (adr v.g) v.f.b.length v.c, .int .i64 (v.f.s : Int)] 79))
  have hbw := hb1 (.cells #[str x, .slice (adr v.g) v.f.b.length v.c, .int .i64 (v.f.s : Int)] 79)
  have hs1 := (hsl.below' hbw).more hbw.size
  have hsz : w.heap.size < (w.alloc (.cells #[str x, .slice (adr v.g) v.f.b.length v.c, .int .i64 (v.f.s : Int)] 79)).heap.size := by simp
  have HG := Lib.hid (And.intro hcm (And.intro hnil (And.intro hG (And.intro hvs hm))))
  clear h hv hx hok h1 hsl hb1 hcm hnil hG hvs hm
  unfold str at hbox hq1 hs1 hbw hsz ⊢
  go_enter Try.func56, Try.ntmps56
  go_wp2_with fail
  generalize (w.alloc (.cells #[.string ⟨x.toArray⟩, .slice (adr v.g) v.f.b.length v.c, .int .i64 (v.f.s : Int)] 79)) = w1 at *
  have H1 := Lib.hid (And.intro hbox (And.intro hq1 (And.intro hs1 hbw)))
  clear hbox hq1 hs1 hbw
  go_loopw [4] (fun x4 w2 => ∃ j : Nat, j ≤ m ∧ x4 = .int .i64 (j : Int) ∧ (∀ (i : Nat) (p : NF), i < j → G[i]? = some p → p.1 < x) ∧ Below w1.heap.size w1 w2) (fun x4 _ => m - (intOf x4).toNat)
  case atStart => exact ⟨0, by omega, rfl, fun i p h => by omega, Below.refl _ _⟩
  case round =>
    obtain ⟨j, hj, rfl, hall, hbel⟩ := hrel
    have HA := Lib.hid hall
    have e1 := (H1.out.2.1.below hbel).e 1 rfl
    by_cases hlt : j < m
    · obtain ⟨y, hy⟩ : ∃ y, G[j]? = some y := ⟨_, List.getElem?_eq_getElem (by rw [HG.out.2.2.2.2]; omega)⟩
      obtain ⟨g, o, hA, hg, hid, _⟩ := fileAt ((H1.out.2.2.1.below' hbel).more hbel.size) hy
      subst hA
      have e2 := cellB (NF.at_ (H1.out.1.below hbel)).1
      unfold str at hid
      have e3 := cellB hid
      clear hid hall
      go_wp2_with fail
      refine bstart (by kernel_rfl) ?_
      refine btake 0 (oi := _) (v := ?_) (by simp only [List.getElem?_toArray, List.getElem?_cons_zero]; rfl) (by kernel_rfl) (by exact fun _ _ _ h => h) (by first | assumption | exact KB.refl _) (.inl ⟨by rfl, fun W hW => ?_⟩) ?_; rotate_left
      · (go_simp; first | done | with_reducible rfl)
      try simp only [Act.put, List.setIfInBounds_toArray, List.set_cons_zero, List.set_cons_succ]
      refine btake 1 (oi := _) (v := ?_) (by simp only [List.getElem?_toArray, List.getElem?_cons_succ, List.getElem?_cons_zero]; rfl) (by kernel_rfl) (by exact fun _ _ _ h => h) (by first | assumption | exact KB.refl _) (.inl ⟨by rfl, fun W hW => ?_⟩) ?_; rotate_left
      · (go_simp; first | done | with_reducible rfl)
      try simp only [Act.put, List.setIfInBounds_toArray, List.set_cons_zero, List.set_cons_succ]
      refine btake 2 (oi := _) (v := ?_) (by simp only [List.getElem?_toArray, List.getElem?_cons_succ, List.getElem?_cons_zero]; rfl) (by kernel_rfl) (by exact fun _ _ _ h => h) (by first | assumption | exact KB.refl _) (.inl ⟨by rfl, fun W hW => ?_⟩) ?_; rotate_left
      · (go_simp; first | done | with_reducible rfl)
      try simp only [Act.put, List.setIfInBounds_toArray, List.set_cons_zero, List.set_cons_succ]
      refine btake 3 (oi := _) (v := ?_) (by simp only [List.getElem?_toArray, List.getElem?_cons_succ, List.getElem?_cons_zero]; rfl) (by kernel_rfl) (by exact fun _ _ _ h => h) (by first | assumption | exact KB.refl _) (.inl ⟨by rfl, fun W hW => ?_⟩) ?_; rotate_left
      · (go_simp; first | done | with_reducible rfl)
      try simp only [Act.put, List.setIfInBounds_toArray, List.set_cons_zero, List.set_cons_succ]
      refine btake 4 (oi := _) (v := ?_) (by simp only [List.getElem?_toArray, List.getElem?_cons_succ, List.getElem?_cons_zero]; rfl) (by kernel_rfl) (by exact fun _ _ _ h => h) (by first | assumption | exact KB.refl _) (.inl ⟨by rfl, fun W hW => ?_⟩) ?_; rotate_left
      · (go_simp; first | done | with_reducible rfl)
      try simp only [Act.put, List.setIfInBounds_toArray, List.set_cons_zero, List.set_cons_succ]
      refine btake 5 (oi := _) (v := ?_) (by simp only [List.getElem?_toArray, List.getElem?_cons_succ, List.getElem?_cons_zero]; rfl) (by kernel_rfl) (by exact fun _ _ _ h => h) (by first | assumption | exact KB.refl _) (.inl ⟨by rfl, fun W hW => ?_⟩) ?_; rotate_left
      · (go_simp; first | done | with_reducible rfl)
      try simp only [Act.put, List.setIfInBounds_toArray, List.set_cons_zero, List.set_cons_succ]
      refine btake 6 (oi := _) (v := ?_) (by simp only [List.getElem?_toArray, List.getElem?_cons_succ, List.getElem?_cons_zero]; rfl) (by kernel_rfl) (by exact fun _ _ _ h => h) (by first | assumption | exact KB.refl _) (.inl ⟨by rfl, fun W hW => ?_⟩) ?_; rotate_left
      · (go_simp; first | done | with_reducible rfl)
      try simp only [Act.put, List.setIfInBounds_toArray, List.set_cons_zero, List.set_cons_succ]
      refine btake 7 (oi := _) (v := ?_) (by simp only [List.getElem?_toArray, List.getElem?_cons_succ, List.getElem?_cons_zero]; rfl) (by kernel_rfl) (by exact fun _ _ _ h => h) (by first | assumption | exact KB.refl _) (.inl ⟨by rfl, fun W hW => ?_⟩) ?_; rotate_left
      · (go_simp; first | done | with_reducible rfl)
      try simp only [Act.put, List.setIfInBounds_toArray, List.set_cons_zero, List.set_cons_succ]
      refine btake 8 (oi := _) (v := ?_) (by simp only [List.getElem?_toArray, List.getElem?_cons_succ, List.getElem?_cons_zero]; rfl) (by kernel_rfl) (by exact fun _ _ _ h => h) (by first | assumption | exact KB.refl _) (.inl ⟨by rfl, fun W hW => ?_⟩) ?_; rotate_left
      · (go_simp; first | done | with_reducible rfl)
      try simp only [Act.put, List.setIfInBounds_toArray, List.set_cons_zero, List.set_cons_succ]
      refine btake 9 (oi := _) (v := ?_) (by simp only [List.getElem?_toArray, List.getElem?_cons_succ, List.getElem?_cons_zero]; rfl) (by kernel_rfl) (by exact fun _ _ _ h => h) (by first | assumption | exact KB.refl _) (.inl ⟨by rfl, fun W hW => ?_⟩) ?_; rotate_left
      · (go_simp; first | done | with_reducible rfl)
      try simp only [Act.put, List.setIfInBounds_toArray, List.set_cons_zero, List.set_cons_succ]
      refine btake 10 (oi := _) (v := ?_) (by simp only [List.getElem?_toArray, List.getElem?_cons_succ, List.getElem?_cons_zero]; rfl) (by kernel_rfl) (by exact fun _ _ _ h => h) (by first | assumption | exact KB.refl _) (.inl ⟨by rfl, fun W hW => ?_⟩) ?_; rotate_left
      · (go_simp; first | done | with_reducible rfl)
      try simp only [Act.put, List.setIfInBounds_toArray, List.set_cons_zero, List.set_cons_succ]
      refine btake 11 (oi := _) (v := ?_) (by simp only [List.getElem?_toArray, List.getElem?_cons_succ, List.getElem?_cons_zero]; rfl) (by kernel_rfl) (by exact fun _ _ _ h => h) (by first | assumption | exact KB.refl _) (.inl ⟨by rfl, fun W hW => ?_⟩) ?_; rotate_left
      · (go_simp; first | done | with_reducible rfl)
      try simp only [Act.put, List.setIfInBounds_toArray, List.set_cons_zero, List.set_cons_succ]
      refine btake 12 (oi := _) (v := ?_) (by simp only [List.getElem?_toArray, List.getElem?_cons_succ, List.getElem?_cons_zero]; rfl) (by kernel_rfl) (by exact fun _ _ _ h => h) (by first | assumption | exact KB.refl _) (.inl ⟨by rfl, fun W hW => ?_⟩) ?_; rotate_left
      · (go_simp; first | done | with_reducible rfl)
      try simp only [Act.put, List.setIfInBounds_toArray, List.set_cons_zero, List.set_cons_succ]
      refine btake 13 (oi := _) (v := ?_) (by simp only [List.getElem?_toArray, List.getElem?_cons_succ, List.getElem?_cons_zero]; rfl) (by kernel_rfl) (by exact fun _ _ _ h => h) (by first | assumption | exact KB.refl _) (.inl ⟨by rfl, fun W hW => ?_⟩) ?_; rotate_left
      · (go_simp; first | done | with_reducible rfl)
      try simp only [Act.put, List.setIfInBounds_toArray, List.set_cons_zero, List.set_cons_succ]
      refine btake 14 (oi := _) (v := ?_) (by simp only [List.getElem?_toArray, List.getElem?_cons_succ, List.getElem?_cons_zero]; rfl) (by kernel_rfl) (by exact fun _ _ _ h => h) (by first | assumption | exact KB.refl _) (.inl ⟨by rfl, fun W hW => ?_⟩) ?_; rotate_left
      · (go_simp; first | done | with_reducible rfl)
      try simp only [Act.put, List.setIfInBounds_toArray, List.set_cons_zero, List.set_cons_succ]
      refine btake 15 (oi := _) (v := ?_) (by simp only [List.getElem?_toArray, List.getElem?_cons_succ, List.getElem?_cons_zero]; rfl) (by kernel_rfl) (by exact fun _ _ _ h => h) (by first | assumption | exact KB.refl _) (.inl ⟨by rfl, fun W hW => ?_⟩) ?_; rotate_left
      · (go_simp; first | done | with_reducible rfl)
      try simp only [Act.put, List.setIfInBounds_toArray, List.set_cons_zero, List.set_cons_succ]
      refine btake 16 (oi := _) (v := ?_) (by simp only [List.getElem?_toArray, List.getElem?_cons_succ, List.getElem?_cons_zero]; rfl) (by kernel_rfl) (by exact fun _ _ _ h => h) (by first | assumption | exact KB.refl _) (.inl ⟨by rfl, fun W hW => ?_⟩) ?_; rotate_left
      · (go_simp; first | done | with_reducible rfl)
      try simp only [Act.put, List.setIfInBounds_toArray, List.set_cons_zero, List.set_cons_succ]
      refine btake 17 (oi := _) (v := ?_) (by simp only [List.getElem?_toArray, List.getElem?_cons_succ, List.getElem?_cons_zero]; rfl) (by kernel_rfl) (by exact fun _ _ _ h => h) (by first | assumption | exact KB.refl _) (.inl ⟨by rfl, fun W hW => ?_⟩) ?_; rotate_left
      · (go_simp; first | done | with_reducible rfl)
      try simp only [Act.put, List.setIfInBounds_toArray, List.set_cons_zero, List.set_cons_succ]
      refine btake 18 (oi := _) (v := ?_) (by simp only [List.getElem?_toArray, List.getElem?_cons_succ, List.getElem?_cons_zero]; rfl) (by kernel_rfl) (by exact fun _ _ _ h => h) (by first | assumption | exact KB.refl _) (.inl ⟨by rfl, fun W hW => ?_⟩) ?_; rotate_left
      · refine Eq.trans (ex_lssN (by rfl) (by rfl) (by rfl)) ?_
        with_reducible rfl
      try simp only [Act.put, List.setIfInBounds_toArray, List.set_cons_zero, List.set_cons_succ]
      refine btake 19 (oi := _) (v := ?_) (by simp only [List.getElem?_toArray, List.getElem?_cons_succ, List.getElem?_cons_zero]; rfl) (by kernel_rfl) (by exact fun _ _ _ h => h) (by first | assumption | exact KB.refl _) (.inl ⟨by rfl, fun W hW => ?_⟩) ?_; rotate_left
      · (go_simp; first | done | with_reducible rfl)
      try simp only [Act.put, List.setIfInBounds_toArray, List.set_cons_zero, List.set_cons_succ]
      refine bdone (by kernel_rfl) ?_
      by_cases hyx : y.1 < x
      · have hd : decide (y.1 < x) = true := decide_eq_true hyx
        rw [hd]
        have HY := Lib.hid (And.intro hy hyx)
        clear hd hyx hy e1 e2 e3
        go_wp2_with fail
        go_roundw
        case rel =>
          refine ⟨j + 1, hlt, by go_num, fun i p hi hp => ?_, hbel.drew⟩
          rcases Nat.lt_succ_iff_lt_or_eq.1 hi with h | rfl
          · exact HA.out i p h hp
          · rw [HY.out.1] at hp; cases hp; exact HY.out.2
        case measure => simp [intOf]; omega
      · have hd : decide (y.1 < x) = false := decide_eq_false hyx
        rw [hd]
        have hstop : ∀ (p : NF), G[j]? = some p → ¬ p.1 < x := fun p hp => by rw [hy] at hp; cases hp; exact hyx
        have hb4 := hbel.drew
        generalize wr.drew = w4 at *
        clear hd hyx hy e1 e2 e3
        have hdl4 : d < w4.heap.size := Nat.lt_of_lt_of_le hdl (Nat.le_trans (Nat.le_of_lt hsz) hb4.size)
        have hnl4 : w.heap.size < w4.heap.size := Nat.lt_of_lt_of_le hsz hb4.size
        have hput : G.take j ++ ([(x, v)] ++ G.drop j) = putN G x v := ins_at (by rw [← mapN_rise (f := FV.f), HG.out.2.2.1]; exact HF.out.2.2.2) (by rw [HG.out.2.2.2.2]; exact hj) HA.out hstop (by have h1 := f_look HG.out.2.2.1 x; rw [HF.out.2.2.1] at h1; cases hl : look G x with | none => rfl | some _ => rw [hl] at h1; cases h1)
        have HP := Lib.hid hput
        have HTL := Lib.hid (And.intro (show (G.take j).length = j by rw [List.length_take, HG.out.2.2.2.2]; omega) (show (G.drop j).length = m - j by rw [List.length_drop, HG.out.2.2.2.2]))
        obtain ⟨A2, hs2, hS2⟩ := EK.sl_post (some ⟨g, o, none⟩) m c j hj hc
        have HS2 := Lib.hid (And.intro hs2 (And.intro hS2 HG.out.2.1))
        have HB := Lib.hid (And.intro ((H1.out.2.2.1.below' hb4).more hb4.size) (And.intro (H1.out.1.below hb4) (And.intro (H1.out.2.1.below hb4) (H1.out.2.2.2.trans (hb4.mono H1.out.2.2.2.size)))))
        have hx0 : (0 : Int) ≤ (j : Int) := by omega
        clear hs2 hS2 hput hstop hb4
        go_wp2_with fail
        have hS0 : QD w4 w.heap.size d (NF.cells (x, v)) (boxD (some ⟨g, o, none⟩) m c s) w4.drew := ⟨HB.out.2.1, HB.out.2.2.1, Nat.le_refl _⟩
        have e0 : ∀ W, QD w4 w.heap.size d (NF.cells (x, v)) (boxD (some ⟨g, o, none⟩) m c s) W → W.cell? ⟨w.heap.size, 0, none⟩ = some (.string ⟨x.toArray⟩) := fun W h => (NF.at_ h.1).1
        have e1 : ∀ W, QD w4 w.heap.size d (NF.cells (x, v)) (boxD (some ⟨g, o, none⟩) m c s) W → W.cell? ⟨w.heap.size, 1, none⟩ = some (.slice (adr v.g) v.f.b.length v.c) := fun W h => (NF.at_ h.1).2.1
        have e2 : ∀ W, QD w4 w.heap.size d (NF.cells (x, v)) (boxD (some ⟨g, o, none⟩) m c s) W → W.cell? ⟨w.heap.size, 2, none⟩ = some (.int .i64 (v.f.s : Int)) := fun W h => (NF.at_ h.1).2.2
        have e4 : ∀ W, QD w4 w.heap.size d (NF.cells (x, v)) (boxD (some ⟨g, o, none⟩) m c s) W → W.cell? ⟨d, 1, none⟩ = some (.slice (some ⟨g, o, none⟩) m c) := fun W h => h.2.1.c 1 rfl
        refine bstartE (QD w4 w.heap.size d (NF.cells (x, v)) (boxD (some ⟨g, o, none⟩) m c s)) 20 (by kernel_rfl) ?_
        refine btakeE 0 [] (oi := _) (v := ?_) (by simp only [List.getElem?_toArray, List.getElem?_cons_zero]; rfl) (by kernel_rfl) (by exact fun _ _ _ h => h) (by first | assumption | exact KB.refl _) (.inl ⟨by rfl, fun W hW => ?_⟩) ?_; rotate_left
        · (go_simp; first | done | with_reducible rfl)
        try simp only [Act.put, List.setIfInBounds_toArray, List.set_cons_zero, List.set_cons_succ]
        refine btakeE 1 [] (oi := _) (v := ?_) (by simp only [List.getElem?_toArray, List.getElem?_cons_succ, List.getElem?_cons_zero]; rfl) (by kernel_rfl) (by exact fun _ _ _ h => h) (by first | assumption | exact KB.refl _) (.inl ⟨by rfl, fun W hW => ?_⟩) ?_; rotate_left
        · (go_simp; first | done | with_reducible rfl)
        try simp only [Act.put, List.setIfInBounds_toArray, List.set_cons_zero, List.set_cons_succ]
        refine btakeE 2 [] (oi := _) (v := ?_) (by simp only [List.getElem?_toArray, List.getElem?_cons_succ, List.getElem?_cons_zero]; rfl) (by kernel_rfl) (by exact fun _ _ _ h => h) (by first | assumption | exact KB.refl _) (.inl ⟨by rfl, fun W hW => ?_⟩) ?_; rotate_left
        · (go_simp; first | done | with_reducible rfl)
        try simp only [Act.put, List.setIfInBounds_toArray, List.set_cons_zero, List.set_cons_succ]
        refine btakeE 3 [] (oi := _) (v := ?_) (by simp only [List.getElem?_toArray, List.getElem?_cons_succ, List.getElem?_cons_zero]; rfl) (by kernel_rfl) (by exact fun _ _ _ h => h) (by first | assumption | exact KB.refl _) (.inl ⟨by rfl, fun W hW => ?_⟩) ?_; rotate_left
        · (go_simp; first | done | with_reducible rfl)
        try simp only [Act.put, List.setIfInBounds_toArray, List.set_cons_zero, List.set_cons_succ]
        refine btakeE 4 [] (oi := _) (v := ?_) (by simp only [List.getElem?_toArray, List.getElem?_cons_succ, List.getElem?_cons_zero]; rfl) (by kernel_rfl) (by exact fun _ _ _ h => h) (by first | assumption | exact KB.refl _) (.inl ⟨by rfl, fun W hW => ?_⟩) ?_; rotate_left
        · (go_simp; first | done | with_reducible rfl)
        try simp only [Act.put, List.setIfInBounds_toArray, List.set_cons_zero, List.set_cons_succ]
        refine btakeE 5 [] (oi := _) (v := ?_) (by simp only [List.getElem?_toArray, List.getElem?_cons_succ, List.getElem?_cons_zero]; rfl) (by kernel_rfl) (by exact fun _ _ _ h => h) (by first | assumption | exact KB.refl _) (.inl ⟨by rfl, fun W hW => ?_⟩) ?_; rotate_left
        · (go_simp; first | done | with_reducible rfl)
        try simp only [Act.put, List.setIfInBounds_toArray, List.set_cons_zero, List.set_cons_succ]
        refine btakeE 6 [] (oi := _) (v := ?_) (by simp only [List.getElem?_toArray, List.getElem?_cons_succ, List.getElem?_cons_zero]; rfl) (by kernel_rfl) (by exact fun _ _ _ h => h) (by first | assumption | exact KB.refl _) (.inl ⟨by rfl, fun W hW => ?_⟩) ?_; rotate_left
        · (go_simp; first | done | with_reducible rfl)
        try simp only [Act.put, List.setIfInBounds_toArray, List.set_cons_zero, List.set_cons_succ]
        refine btakeE 7 [] (oi := _) (v := ?_) (by simp only [List.getElem?_toArray, List.getElem?_cons_succ, List.getElem?_cons_zero]; rfl) (by kernel_rfl) (by exact fun _ _ _ h => h) (by first | assumption | exact KB.refl _) (.inl ⟨by rfl, fun W hW => ?_⟩) ?_; rotate_left
        · refine Eq.trans (EK.exec_pre (x := .tmp 31) (y := .tmp 32) (z := .tmp 33) (A := (some ⟨g, o, none⟩)) (m := m) (c := c) (j := j) ?_ ?_ ?_ ?_ (by omega) _) ?_ <;> first | rfl | with_reducible rfl
        try simp only [Act.put, List.setIfInBounds_toArray, List.set_cons_zero, List.set_cons_succ]
        refine btakeE 8 [] (oi := _) (v := ?_) (by simp only [List.getElem?_toArray, List.getElem?_cons_succ, List.getElem?_cons_zero]; rfl) (by kernel_rfl) (by exact fun _ _ _ h => h) (by first | assumption | exact KB.refl _) (.inl ⟨by rfl, fun W hW => ?_⟩) ?_; rotate_left
        · (go_simp; first | done | with_reducible rfl)
        try simp only [Act.put, List.setIfInBounds_toArray, List.set_cons_zero, List.set_cons_succ]
        refine btakeE 10 [] (oi := _) (v := ?_) (by simp only [List.getElem?_toArray, List.getElem?_cons_succ, List.getElem?_cons_zero]; rfl) (by kernel_rfl) (by exact fun _ _ _ h => h) (by first | assumption | exact KB.refl _) (.inl ⟨by rfl, fun W hW => ?_⟩) ?_; rotate_left
        · (go_simp; first | done | with_reducible rfl)
        try simp only [Act.put, List.setIfInBounds_toArray, List.set_cons_zero, List.set_cons_succ]
        refine btakeE 11 [] (oi := _) (v := ?_) (by simp only [List.getElem?_toArray, List.getElem?_cons_succ, List.getElem?_cons_zero]; rfl) (by kernel_rfl) (by exact fun _ _ _ h => h) (by first | assumption | exact KB.refl _) (.inl ⟨by rfl, fun W hW => ?_⟩) ?_; rotate_left
        · (go_simp; first | done | with_reducible rfl)
        try simp only [Act.put, List.setIfInBounds_toArray, List.set_cons_zero, List.set_cons_succ]
        refine btakeE 12 [] (oi := _) (v := ?_) (by simp only [List.getElem?_toArray, List.getElem?_cons_succ, List.getElem?_cons_zero]; rfl) (by kernel_rfl) (by exact fun _ _ _ h => h) (by first | assumption | exact KB.refl _) (.inl ⟨by rfl, fun W hW => ?_⟩) ?_; rotate_left
        · (go_simp; first | done | with_reducible rfl)
        try simp only [Act.put, List.setIfInBounds_toArray, List.set_cons_zero, List.set_cons_succ]
        refine btakeE 13 [] (oi := _) (v := ?_) (by simp only [List.getElem?_toArray, List.getElem?_cons_succ, List.getElem?_cons_zero]; rfl) (by kernel_rfl) (by exact fun _ _ _ h => h) (by first | assumption | exact KB.refl _) (.inl ⟨by rfl, fun W hW => ?_⟩) ?_; rotate_left
        · (go_simp; first | done | with_reducible rfl)
        try simp only [Act.put, List.setIfInBounds_toArray, List.set_cons_zero, List.set_cons_succ]
        refine btakeE 14 [] (oi := _) (v := ?_) (by simp only [List.getElem?_toArray, List.getElem?_cons_succ, List.getElem?_cons_zero]; rfl) (by kernel_rfl) (by exact fun _ _ _ h => h) (by first | assumption | exact KB.refl _) (.inl ⟨by rfl, fun W hW => ?_⟩) ?_; rotate_left
        · (go_simp; first | done | with_reducible rfl)
        try simp only [Act.put, List.setIfInBounds_toArray, List.set_cons_zero, List.set_cons_succ]
        refine btakeE 15 [] (oi := _) (v := ?_) (by simp only [List.getElem?_toArray, List.getElem?_cons_succ, List.getElem?_cons_zero]; rfl) (by kernel_rfl) (by exact fun _ _ _ h => h) (by first | assumption | exact KB.refl _) (.inl ⟨by rfl, fun W hW => ?_⟩) ?_; rotate_left
        · refine Eq.trans (EK.exec_post (x := .tmp 40) (y := .tmp 41) (A := (some ⟨g, o, none⟩)) (m := m) (c := c) (j := j) ?_ ?_ ?_ HS2.out.1 _) ?_ <;> first | rfl | with_reducible rfl
        try simp only [Act.put, List.setIfInBounds_toArray, List.set_cons_zero, List.set_cons_succ]
        -- 9: Op.buildSlice 63 1 #[(0, Operand.tmp 35)]
        refine bopE 9 (o := _) (by simp only [List.getElem?_toArray, List.getElem?_cons_succ, List.getElem?_cons_zero]; rfl) (by kernel_rfl) (by rfl) (fun K hK => ?_)
        refine wpVal (EK.ex_bs1 (by rfl) (x, v) (by rfl)) ?_
        have hol := EK.own1 w4.drew (x, v)
        have hbl : Below w4.heap.size w4 (w4.drew.alloc (.cells (EK.cells (x, v)).toArray 79)) := (Below.refl w4.heap.size w4).drew.alloc (Nat.le_refl _) _
        have hkb := hS0.grow ((Below.refl w4.heap.size w4.drew).alloc (Nat.le_refl _) (.cells (EK.cells (x, v)).toArray 79)) hnl4 hdl4
        refine hK.out _ _ hkb ?_; clear hK K
        try simp only [Act.put, List.setIfInBounds_toArray, List.set_cons_zero, List.set_cons_succ]
        -- 16: Op.call { callee := Callee.builtin Builtin.append, args := #[Operand.tmp 36, Operand.tmp 42], argTypes := #[63, 63] }
        refine bopE 16 (o := _) (by simp only [List.getElem?_toArray, List.getElem?_cons_succ, List.getElem?_cons_zero]; rfl) (by kernel_rfl) (by rfl) (fun K hK => ?_)
        have hSd := HS2.out.2.1 _ _ G HG.out.2.2.2.2 ((HB.out.1.below hbl).more hbl.size)
        refine wp_appE rfl hol hSd HTL.out.2.symm rfl rfl (by rw [HTL.out.2, List.length_singleton]; omega) (by simp) ?_
        intro v5 w5 hown5 hg5 hat5
        have hb5 : Below w4.heap.size w4 w5 := hol.below_of hbl hbl.size hg5
        obtain ⟨A5, c5, rfl, _, _, hs5, _⟩ := hown5.form
        have hkb := hS0.grow (show Below w4.heap.size w4.drew w5 from ⟨hb5.os, hb5.tape, hb5.output, hb5.size, hb5.block⟩) hnl4 hdl4
        refine hK.out _ _ hkb ?_; clear hK K
        try simp only [Act.put, List.setIfInBounds_toArray, List.set_cons_zero, List.set_cons_succ]
        -- 17: Op.call { callee := Callee.builtin Builtin.append, args := #[Operand.tmp 34, Operand.tmp 43], argTypes := #[63, 63] }
        refine bopE 17 (o := _) (by simp only [List.getElem?_toArray, List.getElem?_cons_succ, List.getElem?_cons_zero]; rfl) (by kernel_rfl) (by rfl) (fun K hK => ?_)
        have hSp : Sl w5 w4.heap.size (some ⟨g, o, none⟩) (EK.dv (G.take j)) := by rw [← EK.dv_take]; exact (HB.out.1.below hb5).tk _
        refine wp_appFE rfl hSp HTL.out.1.symm hs5 rfl rfl rfl (by simp) (fun e => by have h0 := HS2.out.2.2 e; have h2 := HG.out.2.2.2.2; rw [h0.1] at h2; simp at h2; omega) (Nat.le_refl _) (by simp [HTL.out.1, HTL.out.2]; omega) ?_
        intro v6 w6 hown6 hg6
        have hb6 := hb5.trans ((belowN hg6).mono hb5.size)
        obtain ⟨A6, c6, rfl, _, _, _, hnil6, _⟩ := hown6.form
        have hkb := hS0.grow (show Below w4.heap.size w4.drew w6 from ⟨hb6.os, hb6.tape, hb6.output, hb6.size, hb6.block⟩) hnl4 hdl4
        have zc := hkb.2.1.c 1 rfl
        have zf := hkb.2.1.f 1 rfl
        refine hK.out _ _ hkb ?_; clear hK K
        try simp only [Act.put, List.setIfInBounds_toArray, List.set_cons_zero, List.set_cons_succ]
        refine btakeE 18 [19] (oi := _) (v := ?_) (by simp only [List.getElem?_toArray, List.getElem?_cons_succ, List.getElem?_cons_zero]; rfl) (by kernel_rfl) (by exact fun _ _ _ h => h) (by first | assumption | exact KB.refl _) (.inl ⟨by rfl, fun W hW => ?_⟩) ?_; rotate_left
        · (go_simp; first | done | with_reducible rfl)
        try simp only [Act.put, List.setIfInBounds_toArray, List.set_cons_zero, List.set_cons_succ]
        refine btakeE 19 [] (oi := _) (v := ?_) (by simp only [List.getElem?_toArray, List.getElem?_cons_succ, List.getElem?_cons_zero]; rfl) (by kernel_rfl) (by exact fun _ _ _ h => h) (by first | assumption | exact KB.refl _) (.inl ⟨by rfl, fun W hW => ?_⟩) ?_; rotate_left
        · (go_simp; first | done | with_reducible rfl)
        try simp only [Act.put, List.setIfInBounds_toArray, List.set_cons_zero, List.set_cons_succ]
        -- 20: Op.store 63 (Operand.tmp 46) (Operand.tmp 44)
        refine blastE 20 (o := _) (by simp only [List.getElem?_toArray, List.getElem?_cons_succ, List.getElem?_cons_zero]; rfl) (by kernel_rfl) (by rfl) (by rfl) (fun K hK => ?_)
        go_simp
        skip
        refine hK.out _ _ ?_; clear hK K
        try simp only [Act.put, List.setIfInBounds_toArray, List.set_cons_zero, List.set_cons_succ]
        refine bdoneE (by kernel_rfl) ?_
        rw [HP.out] at hown6 hnil6
        go_end0
        refine ⟨rfl, ?_⟩
        rw [show min j G.length + (G.length - j + 1) = (putN G x v).length from by rw [← HP.out]; simp]
        exact ddp_new (s' := { s with R := putN s.R x v.f }) HF.out.1 (HB.out.2.2.2.trans (hb6.mono HB.out.2.2.2.size)) hown6 (by have := hb5.size; have := HB.out.2.2.2.size; omega) hkb.2.1 rfl (by rw [mapN_put, HG.out.2.2.1]) (fun q hq => by rcases mem_putN hq with e | hq; exact e ▸ HF.out.2.1; exact HG.out.2.2.2.1 q hq) hnil6
    · obtain rfl : j = m := by omega
      have hstop : ∀ (p : NF), G[j]? = some p → ¬ p.1 < x := fun p hp => by have := (List.getElem?_eq_some_iff.1 hp).1; rw [HG.out.2.2.2.2] at this; omega
      have hd : decide ((j : Int) < (j : Int)) = false := by rw [decide_eq_false_iff_not]; omega
      clear hall
      go_wp2_with fail
      refine bstart (by kernel_rfl) ?_
      refine btake 0 (oi := _) (v := ?_) (by simp only [List.getElem?_toArray, List.getElem?_cons_zero]; rfl) (by kernel_rfl) (by exact fun _ _ _ h => h) (by first | assumption | exact KB.refl _) (.inl ⟨by rfl, fun W hW => ?_⟩) ?_; rotate_left
      · (go_simp; first | done | with_reducible rfl)
      try simp only [Act.put, List.setIfInBounds_toArray, List.set_cons_zero, List.set_cons_succ]
      refine btake 1 (oi := _) (v := ?_) (by simp only [List.getElem?_toArray, List.getElem?_cons_succ, List.getElem?_cons_zero]; rfl) (by kernel_rfl) (by exact fun _ _ _ h => h) (by first | assumption | exact KB.refl _) (.inl ⟨by rfl, fun W hW => ?_⟩) ?_; rotate_left
      · (go_simp; first | done | with_reducible rfl)
      try simp only [Act.put, List.setIfInBounds_toArray, List.set_cons_zero, List.set_cons_succ]
      refine btake 2 (oi := _) (v := ?_) (by simp only [List.getElem?_toArray, List.getElem?_cons_succ, List.getElem?_cons_zero]; rfl) (by kernel_rfl) (by exact fun _ _ _ h => h) (by first | assumption | exact KB.refl _) (.inl ⟨by rfl, fun W hW => ?_⟩) ?_; rotate_left
      · (go_simp; first | done | with_reducible rfl)
      try simp only [Act.put, List.setIfInBounds_toArray, List.set_cons_zero, List.set_cons_succ]
      refine btake 3 (oi := _) (v := ?_) (by simp only [List.getElem?_toArray, List.getElem?_cons_succ, List.getElem?_cons_zero]; rfl) (by kernel_rfl) (by exact fun _ _ _ h => h) (by first | assumption | exact KB.refl _) (.inl ⟨by rfl, fun W hW => ?_⟩) ?_; rotate_left
      · (go_simp; first | done | with_reducible rfl)
      try simp only [Act.put, List.setIfInBounds_toArray, List.set_cons_zero, List.set_cons_succ]
      refine btake 4 (oi := _) (v := ?_) (by simp only [List.getElem?_toArray, List.getElem?_cons_succ, List.getElem?_cons_zero]; rfl) (by kernel_rfl) (by exact fun _ _ _ h => h) (by first | assumption | exact KB.refl _) (.inl ⟨by rfl, fun W hW => ?_⟩) ?_; rotate_left
      · (go_simp; first | done | with_reducible rfl)
      try simp only [Act.put, List.setIfInBounds_toArray, List.set_cons_zero, List.set_cons_succ]
      refine btake 5 (oi := _) (v := ?_) (by simp only [List.getElem?_toArray, List.getElem?_cons_succ, List.getElem?_cons_zero]; rfl) (by kernel_rfl) (by exact fun _ _ _ h => h) (by first | assumption | exact KB.refl _) (.inl ⟨by rfl, fun W hW => ?_⟩) ?_; rotate_left
      · (go_simp; first | done | with_reducible rfl)
      try simp only [Act.put, List.setIfInBounds_toArray, List.set_cons_zero, List.set_cons_succ]
      refine btake 6 (oi := _) (v := ?_) (by simp only [List.getElem?_toArray, List.getElem?_cons_succ, List.getElem?_cons_zero]; rfl) (by kernel_rfl) (by exact fun _ _ _ h => h) (by first | assumption | exact KB.refl _) (.inl ⟨by rfl, fun W hW => ?_⟩) ?_; rotate_left
      · (go_simp; first | done | with_reducible rfl)
      try simp only [Act.put, List.setIfInBounds_toArray, List.set_cons_zero, List.set_cons_succ]
      refine btake 7 (oi := _) (v := ?_) (by simp only [List.getElem?_toArray, List.getElem?_cons_succ, List.getElem?_cons_zero]; rfl) (by kernel_rfl) (by exact fun _ _ _ h => h) (by first | assumption | exact KB.refl _) (.inl ⟨by rfl, fun W hW => ?_⟩) ?_; rotate_left
      · (go_simp; first | done | with_reducible rfl)
      try simp only [Act.put, List.setIfInBounds_toArray, List.set_cons_zero, List.set_cons_succ]
      refine btake 8 (oi := _) (v := undef) (by simp only [List.getElem?_toArray, List.getElem?_cons_succ, List.getElem?_cons_zero]; rfl) (by kernel_rfl) (by exact fun _ _ _ h => h) (by first | assumption | exact KB.refl _) (.inr ⟨by rfl, rfl⟩) ?_
      try simp only [Act.put, List.setIfInBounds_toArray, List.set_cons_zero, List.set_cons_succ]
      refine btake 9 (oi := _) (v := undef) (by simp only [List.getElem?_toArray, List.getElem?_cons_succ, List.getElem?_cons_zero]; rfl) (by kernel_rfl) (by exact fun _ _ _ h => h) (by first | assumption | exact KB.refl _) (.inr ⟨by rfl, rfl⟩) ?_
      try simp only [Act.put, List.setIfInBounds_toArray, List.set_cons_zero, List.set_cons_succ]
      refine btake 10 (oi := _) (v := undef) (by simp only [List.getElem?_toArray, List.getElem?_cons_succ, List.getElem?_cons_zero]; rfl) (by kernel_rfl) (by exact fun _ _ _ h => h) (by first | assumption | exact KB.refl _) (.inr ⟨by rfl, rfl⟩) ?_
      try simp only [Act.put, List.setIfInBounds_toArray, List.set_cons_zero, List.set_cons_succ]
      refine btake 11 (oi := _) (v := undef) (by simp only [List.getElem?_toArray, List.getElem?_cons_succ, List.getElem?_cons_zero]; rfl) (by kernel_rfl) (by exact fun _ _ _ h => h) (by first | assumption | exact KB.refl _) (.inr ⟨by rfl, rfl⟩) ?_
      try simp only [Act.put, List.setIfInBounds_toArray, List.set_cons_zero, List.set_cons_succ]
      refine btake 12 (oi := _) (v := undef) (by simp only [List.getElem?_toArray, List.getElem?_cons_succ, List.getElem?_cons_zero]; rfl) (by kernel_rfl) (by exact fun _ _ _ h => h) (by first | assumption | exact KB.refl _) (.inr ⟨by rfl, rfl⟩) ?_
      try simp only [Act.put, List.setIfInBounds_toArray, List.set_cons_zero, List.set_cons_succ]
      refine btake 13 (oi := _) (v := undef) (by simp only [List.getElem?_toArray, List.getElem?_cons_succ, List.getElem?_cons_zero]; rfl) (by kernel_rfl) (by exact fun _ _ _ h => h) (by first | assumption | exact KB.refl _) (.inr ⟨by rfl, rfl⟩) ?_
      try simp only [Act.put, List.setIfInBounds_toArray, List.set_cons_zero, List.set_cons_succ]
      refine btake 14 (oi := _) (v := undef) (by simp only [List.getElem?_toArray, List.getElem?_cons_succ, List.getElem?_cons_zero]; rfl) (by kernel_rfl) (by exact fun _ _ _ h => h) (by first | assumption | exact KB.refl _) (.inr ⟨by rfl, rfl⟩) ?_
      try simp only [Act.put, List.setIfInBounds_toArray, List.set_cons_zero, List.set_cons_succ]
      refine btake 15 (oi := _) (v := undef) (by simp only [List.getElem?_toArray, List.getElem?_cons_succ, List.getElem?_cons_zero]; rfl) (by kernel_rfl) (by exact fun _ _ _ h => h) (by first | assumption | exact KB.refl _) (.inr ⟨by rfl, rfl⟩) ?_
      try simp only [Act.put, List.setIfInBounds_toArray, List.set_cons_zero, List.set_cons_succ]
      refine btake 16 (oi := _) (v := undef) (by simp only [List.getElem?_toArray, List.getElem?_cons_succ, List.getElem?_cons_zero]; rfl) (by kernel_rfl) (by exact fun _ _ _ h => h) (by first | assumption | exact KB.refl _) (.inr ⟨by rfl, rfl⟩) ?_
      try simp only [Act.put, List.setIfInBounds_toArray, List.set_cons_zero, List.set_cons_succ]
      refine btake 17 (oi := _) (v := undef) (by simp only [List.getElem?_toArray, List.getElem?_cons_succ, List.getElem?_cons_zero]; rfl) (by kernel_rfl) (by exact fun _ _ _ h => h) (by first | assumption | exact KB.refl _) (.inr ⟨by rfl, rfl⟩) ?_
      try simp only [Act.put, List.setIfInBounds_toArray, List.set_cons_zero, List.set_cons_succ]
      refine btake 18 (oi := _) (v := undef) (by simp only [List.getElem?_toArray, List.getElem?_cons_succ, List.getElem?_cons_zero]; rfl) (by kernel_rfl) (by exact fun _ _ _ h => h) (by first | assumption | exact KB.refl _) (.inr ⟨by rfl, rfl⟩) ?_
      try simp only [Act.put, List.setIfInBounds_toArray, List.set_cons_zero, List.set_cons_succ]
      refine btake 19 (oi := _) (v := ?_) (by simp only [List.getElem?_toArray, List.getElem?_cons_succ, List.getElem?_cons_zero]; rfl) (by kernel_rfl) (by exact fun _ _ _ h => h) (by first | assumption | exact KB.refl _) (.inl ⟨by rfl, fun W hW => ?_⟩) ?_; rotate_left
      · (go_simp; first | done | with_reducible rfl)
      try simp only [Act.put, List.setIfInBounds_toArray, List.set_cons_zero, List.set_cons_succ]
      refine bdone (by kernel_rfl) ?_
      have hb4 := hbel.drew
      generalize wr.drew = w4 at *
      clear hd e1
      have hdl4 : d < w4.heap.size := Nat.lt_of_lt_of_le hdl (Nat.le_trans (Nat.le_of_lt hsz) hb4.size)
      have hnl4 : w.heap.size < w4.heap.size := Nat.lt_of_lt_of_le hsz hb4.size
      have hput : G.take j ++ ([(x, v)] ++ G.drop j) = putN G x v := ins_at (by rw [← mapN_rise (f := FV.f), HG.out.2.2.1]; exact HF.out.2.2.2) (by rw [HG.out.2.2.2.2]; exact hj) HA.out hstop (by have h1 := f_look HG.out.2.2.1 x; rw [HF.out.2.2.1] at h1; cases hl : look G x with | none => rfl | some _ => rw [hl] at h1; cases h1)
      have HP := Lib.hid hput
      have HTL := Lib.hid (And.intro (show (G.take j).length = j by rw [List.length_take, HG.out.2.2.2.2]; omega) (show (G.drop j).length = j - j by rw [List.length_drop, HG.out.2.2.2.2]))
      obtain ⟨A2, hs2, hS2⟩ := EK.sl_post A j c j hj hc
      have HS2 := Lib.hid (And.intro hs2 (And.intro hS2 HG.out.2.1))
      have HB := Lib.hid (And.intro ((H1.out.2.2.1.below' hb4).more hb4.size) (And.intro (H1.out.1.below hb4) (And.intro (H1.out.2.1.below hb4) (H1.out.2.2.2.trans (hb4.mono H1.out.2.2.2.size)))))
      have hx0 : (0 : Int) ≤ (j : Int) := by omega
      clear hs2 hS2 hput hstop hb4
      go_wp2_with fail
      have hS0 : QD w4 w.heap.size d (NF.cells (x, v)) (boxD A j c s) w4.drew := ⟨HB.out.2.1, HB.out.2.2.1, Nat.le_refl _⟩
      have e0 : ∀ W, QD w4 w.heap.size d (NF.cells (x, v)) (boxD A j c s) W → W.cell? ⟨w.heap.size, 0, none⟩ = some (.string ⟨x.toArray⟩) := fun W h => (NF.at_ h.1).1
      have e1 : ∀ W, QD w4 w.heap.size d (NF.cells (x, v)) (boxD A j c s) W → W.cell? ⟨w.heap.size, 1, none⟩ = some (.slice (adr v.g) v.f.b.length v.c) := fun W h => (NF.at_ h.1).2.1
      have e2 : ∀ W, QD w4 w.heap.size d (NF.cells (x, v)) (boxD A j c s) W → W.cell? ⟨w.heap.size, 2, none⟩ = some (.int .i64 (v.f.s : Int)) := fun W h => (NF.at_ h.1).2.2
      have e4 : ∀ W, QD w4 w.heap.size d (NF.cells (x, v)) (boxD A j c s) W → W.cell? ⟨d, 1, none⟩ = some (.slice A j c) := fun W h => h.2.1.c 1 rfl
      refine bstartE (QD w4 w.heap.size d (NF.cells (x, v)) (boxD A j c s)) 20 (by kernel_rfl) ?_
      refine btakeE 0 [] (oi := _) (v := ?_) (by simp only [List.getElem?_toArray, List.getElem?_cons_zero]; rfl) (by kernel_rfl) (by exact fun _ _ _ h => h) (by first | assumption | exact KB.refl _) (.inl ⟨by rfl, fun W hW => ?_⟩) ?_; rotate_left
      · (go_simp; first | done | with_reducible rfl)
      try simp only [Act.put, List.setIfInBounds_toArray, List.set_cons_zero, List.set_cons_succ]
      refine btakeE 1 [] (oi := _) (v := ?_) (by simp only [List.getElem?_toArray, List.getElem?_cons_succ, List.getElem?_cons_zero]; rfl) (by kernel_rfl) (by exact fun _ _ _ h => h) (by first | assumption | exact KB.refl _) (.inl ⟨by rfl, fun W hW => ?_⟩) ?_; rotate_left
      · (go_simp; first | done | with_reducible rfl)
      try simp only [Act.put, List.setIfInBounds_toArray, List.set_cons_zero, List.set_cons_succ]
      refine btakeE 2 [] (oi := _) (v := ?_) (by simp only [List.getElem?_toArray, List.getElem?_cons_succ, List.getElem?_cons_zero]; rfl) (by kernel_rfl) (by exact fun _ _ _ h => h) (by first | assumption | exact KB.refl _) (.inl ⟨by rfl, fun W hW => ?_⟩) ?_; rotate_left
      · (go_simp; first | done | with_reducible rfl)
      try simp only [Act.put, List.setIfInBounds_toArray, List.set_cons_zero, List.set_cons_succ]
      refine btakeE 3 [] (oi := _) (v := ?_) (by simp only [List.getElem?_toArray, List.getElem?_cons_succ, List.getElem?_cons_zero]; rfl) (by kernel_rfl) (by exact fun _ _ _ h => h) (by first | assumption | exact KB.refl _) (.inl ⟨by rfl, fun W hW => ?_⟩) ?_; rotate_left
      · (go_simp; first | done | with_reducible rfl)
      try simp only [Act.put, List.setIfInBounds_toArray, List.set_cons_zero, List.set_cons_succ]
      refine btakeE 4 [] (oi := _) (v := ?_) (by simp only [List.getElem?_toArray, List.getElem?_cons_succ, List.getElem?_cons_zero]; rfl) (by kernel_rfl) (by exact fun _ _ _ h => h) (by first | assumption | exact KB.refl _) (.inl ⟨by rfl, fun W hW => ?_⟩) ?_; rotate_left
      · (go_simp; first | done | with_reducible rfl)
      try simp only [Act.put, List.setIfInBounds_toArray, List.set_cons_zero, List.set_cons_succ]
      refine btakeE 5 [] (oi := _) (v := ?_) (by simp only [List.getElem?_toArray, List.getElem?_cons_succ, List.getElem?_cons_zero]; rfl) (by kernel_rfl) (by exact fun _ _ _ h => h) (by first | assumption | exact KB.refl _) (.inl ⟨by rfl, fun W hW => ?_⟩) ?_; rotate_left
      · (go_simp; first | done | with_reducible rfl)
      try simp only [Act.put, List.setIfInBounds_toArray, List.set_cons_zero, List.set_cons_succ]
      refine btakeE 6 [] (oi := _) (v := ?_) (by simp only [List.getElem?_toArray, List.getElem?_cons_succ, List.getElem?_cons_zero]; rfl) (by kernel_rfl) (by exact fun _ _ _ h => h) (by first | assumption | exact KB.refl _) (.inl ⟨by rfl, fun W hW => ?_⟩) ?_; rotate_left
      · (go_simp; first | done | with_reducible rfl)
      try simp only [Act.put, List.setIfInBounds_toArray, List.set_cons_zero, List.set_cons_succ]
      refine btakeE 7 [] (oi := _) (v := ?_) (by simp only [List.getElem?_toArray, List.getElem?_cons_succ, List.getElem?_cons_zero]; rfl) (by kernel_rfl) (by exact fun _ _ _ h => h) (by first | assumption | exact KB.refl _) (.inl ⟨by rfl, fun W hW => ?_⟩) ?_; rotate_left
      · refine Eq.trans (EK.exec_pre (x := .tmp 31) (y := .tmp 32) (z := .tmp 33) (A := A) (m := j) (c := c) (j := j) ?_ ?_ ?_ ?_ (by omega) _) ?_ <;> first | rfl | with_reducible rfl
      try simp only [Act.put, List.setIfInBounds_toArray, List.set_cons_zero, List.set_cons_succ]
      refine btakeE 8 [] (oi := _) (v := ?_) (by simp only [List.getElem?_toArray, List.getElem?_cons_succ, List.getElem?_cons_zero]; rfl) (by kernel_rfl) (by exact fun _ _ _ h => h) (by first | assumption | exact KB.refl _) (.inl ⟨by rfl, fun W hW => ?_⟩) ?_; rotate_left
      · (go_simp; first | done | with_reducible rfl)
      try simp only [Act.put, List.setIfInBounds_toArray, List.set_cons_zero, List.set_cons_succ]
      refine btakeE 10 [] (oi := _) (v := ?_) (by simp only [List.getElem?_toArray, List.getElem?_cons_succ, List.getElem?_cons_zero]; rfl) (by kernel_rfl) (by exact fun _ _ _ h => h) (by first | assumption | exact KB.refl _) (.inl ⟨by rfl, fun W hW => ?_⟩) ?_; rotate_left
      · (go_simp; first | done | with_reducible rfl)
      try simp only [Act.put, List.setIfInBounds_toArray, List.set_cons_zero, List.set_cons_succ]
      refine btakeE 11 [] (oi := _) (v := ?_) (by simp only [List.getElem?_toArray, List.getElem?_cons_succ, List.getElem?_cons_zero]; rfl) (by kernel_rfl) (by exact fun _ _ _ h => h) (by first | assumption | exact KB.refl _) (.inl ⟨by rfl, fun W hW => ?_⟩) ?_; rotate_left
      · (go_simp; first | done | with_reducible rfl)
      try simp only [Act.put, List.setIfInBounds_toArray, List.set_cons_zero, List.set_cons_succ]
      refine btakeE 12 [] (oi := _) (v := ?_) (by simp only [List.getElem?_toArray, List.getElem?_cons_succ, List.getElem?_cons_zero]; rfl) (by kernel_rfl) (by exact fun _ _ _ h => h) (by first | assumption | exact KB.refl _) (.inl ⟨by rfl, fun W hW => ?_⟩) ?_; rotate_left
      · (go_simp; first | done | with_reducible rfl)
      try simp only [Act.put, List.setIfInBounds_toArray, List.set_cons_zero, List.set_cons_succ]
      refine btakeE 13 [] (oi := _) (v := ?_) (by simp only [List.getElem?_toArray, List.getElem?_cons_succ, List.getElem?_cons_zero]; rfl) (by kernel_rfl) (by exact fun _ _ _ h => h) (by first | assumption | exact KB.refl _) (.inl ⟨by rfl, fun W hW => ?_⟩) ?_; rotate_left
      · (go_simp; first | done | with_reducible rfl)
      try simp only [Act.put, List.setIfInBounds_toArray, List.set_cons_zero, List.set_cons_succ]
      refine btakeE 14 [] (oi := _) (v := ?_) (by simp only [List.getElem?_toArray, List.getElem?_cons_succ, List.getElem?_cons_zero]; rfl) (by kernel_rfl) (by exact fun _ _ _ h => h) (by first | assumption | exact KB.refl _) (.inl ⟨by rfl, fun W hW => ?_⟩) ?_; rotate_left
      · (go_simp; first | done | with_reducible rfl)
      try simp only [Act.put, List.setIfInBounds_toArray, List.set_cons_zero, List.set_cons_succ]
      refine btakeE 15 [] (oi := _) (v := ?_) (by simp only [List.getElem?_toArray, List.getElem?_cons_succ, List.getElem?_cons_zero]; rfl) (by kernel_rfl) (by exact fun _ _ _ h => h) (by first | assumption | exact KB.refl _) (.inl ⟨by rfl, fun W hW => ?_⟩) ?_; rotate_left
      · refine Eq.trans (EK.exec_post (x := .tmp 40) (y := .tmp 41) (A := A) (m := j) (c := c) (j := j) ?_ ?_ ?_ HS2.out.1 _) ?_ <;> first | rfl | with_reducible rfl
      try simp only [Act.put, List.setIfInBounds_toArray, List.set_cons_zero, List.set_cons_succ]
      -- 9: Op.buildSlice 63 1 #[(0, Operand.tmp 35)]
      refine bopE 9 (o := _) (by simp only [List.getElem?_toArray, List.getElem?_cons_succ, List.getElem?_cons_zero]; rfl) (by kernel_rfl) (by rfl) (fun K hK => ?_)
      refine wpVal (EK.ex_bs1 (by rfl) (x, v) (by rfl)) ?_
      have hol := EK.own1 w4.drew (x, v)
      have hbl : Below w4.heap.size w4 (w4.drew.alloc (.cells (EK.cells (x, v)).toArray 79)) := (Below.refl w4.heap.size w4).drew.alloc (Nat.le_refl _) _
      have hkb := hS0.grow ((Below.refl w4.heap.size w4.drew).alloc (Nat.le_refl _) (.cells (EK.cells (x, v)).toArray 79)) hnl4 hdl4
      refine hK.out _ _ hkb ?_; clear hK K
      try simp only [Act.put, List.setIfInBounds_toArray, List.set_cons_zero, List.set_cons_succ]
      -- 16: Op.call { callee := Callee.builtin Builtin.append, args := #[Operand.tmp 36, Operand.tmp 42], argTypes := #[63, 63] }
      refine bopE 16 (o := _) (by simp only [List.getElem?_toArray, List.getElem?_cons_succ, List.getElem?_cons_zero]; rfl) (by kernel_rfl) (by rfl) (fun K hK => ?_)
      have hSd := HS2.out.2.1 _ _ G HG.out.2.2.2.2 ((HB.out.1.below hbl).more hbl.size)
      refine wp_appE rfl hol hSd HTL.out.2.symm rfl rfl (by rw [HTL.out.2, List.length_singleton]; omega) (by simp) ?_
      intro v5 w5 hown5 hg5 hat5
      have hb5 : Below w4.heap.size w4 w5 := hol.below_of hbl hbl.size hg5
      obtain ⟨A5, c5, rfl, _, _, hs5, _⟩ := hown5.form
      have hkb := hS0.grow (show Below w4.heap.size w4.drew w5 from ⟨hb5.os, hb5.tape, hb5.output, hb5.size, hb5.block⟩) hnl4 hdl4
      refine hK.out _ _ hkb ?_; clear hK K
      try simp only [Act.put, List.setIfInBounds_toArray, List.set_cons_zero, List.set_cons_succ]
      -- 17: Op.call { callee := Callee.builtin Builtin.append, args := #[Operand.tmp 34, Operand.tmp 43], argTypes := #[63, 63] }
      refine bopE 17 (o := _) (by simp only [List.getElem?_toArray, List.getElem?_cons_succ, List.getElem?_cons_zero]; rfl) (by kernel_rfl) (by rfl) (fun K hK => ?_)
      have hSp : Sl w5 w4.heap.size A (EK.dv (G.take j)) := by rw [← EK.dv_take]; exact (HB.out.1.below hb5).tk _
      refine wp_appFE rfl hSp HTL.out.1.symm hs5 rfl rfl rfl (by simp) (fun e => by have h0 := HS2.out.2.2 e; have h2 := HG.out.2.2.2.2; rw [h0.1] at h2; simp at h2; omega) (Nat.le_refl _) (by simp [HTL.out.1, HTL.out.2]; omega) ?_
      intro v6 w6 hown6 hg6
      have hb6 := hb5.trans ((belowN hg6).mono hb5.size)
      obtain ⟨A6, c6, rfl, _, _, _, hnil6, _⟩ := hown6.form
      have hkb := hS0.grow (show Below w4.heap.size w4.drew w6 from ⟨hb6.os, hb6.tape, hb6.output, hb6.size, hb6.block⟩) hnl4 hdl4
      have zc := hkb.2.1.c 1 rfl
      have zf := hkb.2.1.f 1 rfl
      refine hK.out _ _ hkb ?_; clear hK K
      try simp only [Act.put, List.setIfInBounds_toArray, List.set_cons_zero, List.set_cons_succ]
      refine btakeE 18 [19] (oi := _) (v := ?_) (by simp only [List.getElem?_toArray, List.getElem?_cons_succ, List.getElem?_cons_zero]; rfl) (by kernel_rfl) (by exact fun _ _ _ h => h) (by first | assumption | exact KB.refl _) (.inl ⟨by rfl, fun W hW => ?_⟩) ?_; rotate_left
      · (go_simp; first | done | with_reducible rfl)
      try simp only [Act.put, List.setIfInBounds_toArray, List.set_cons_zero, List.set_cons_succ]
      refine btakeE 19 [] (oi := _) (v := ?_) (by simp only [List.getElem?_toArray, List.getElem?_cons_succ, List.getElem?_cons_zero]; rfl) (by kernel_rfl) (by exact fun _ _ _ h => h) (by first | assumption | exact KB.refl _) (.inl ⟨by rfl, fun W hW => ?_⟩) ?_; rotate_left
      · (go_simp; first | done | with_reducible rfl)
      try simp only [Act.put, List.setIfInBounds_toArray, List.set_cons_zero, List.set_cons_succ]
      -- 20: Op.store 63 (Operand.tmp 46) (Operand.tmp 44)
      refine blastE 20 (o := _) (by simp only [List.getElem?_toArray, List.getElem?_cons_succ, List.getElem?_cons_zero]; rfl) (by kernel_rfl) (by rfl) (by rfl) (fun K hK => ?_)
      go_simp
      skip
      refine hK.out _ _ ?_; clear hK K
      try simp only [Act.put, List.setIfInBounds_toArray, List.set_cons_zero, List.set_cons_succ]
      refine bdoneE (by kernel_rfl) ?_
      rw [HP.out] at hown6 hnil6
      go_end0
      refine ⟨rfl, ?_⟩
      rw [show min j G.length + (G.length - j + 1) = (putN G x v).length from by rw [← HP.out]; simp]
      exact ddp_new (s' := { s with R := putN s.R x v.f }) HF.out.1 (HB.out.2.2.2.trans (hb6.mono HB.out.2.2.2.size)) hown6 (by have := hb5.size; have := HB.out.2.2.2.size; omega) hkb.2.1 rfl (by rw [mapN_put, HG.out.2.2.1]) (fun q hq => by rcases mem_putN hq with e | hq; exact e ▸ HF.out.2.1; exact HG.out.2.2.2.1 q hq) hnil6
end Go.Proofs.Ythnbnhlfiehihaa
