/- Disks: the program's set and gone. -/
import Derived.Test.YthnbnhlfiehihaaDk1
import Derived.Test.YthnbnhlfiehihaaRegE
namespace Go.Proofs.Ythnbnhlfiehihaa
open Go.RowKit Go.Maps
set_option maxRecDepth 20000

theorem old_le {s : DK} {n : Nat} (hok : s.ok n) (x : Nm) : (s.fileOf x).b.length ≤ usedR s.R := by
  unfold DK.fileOf
  cases hl : look s.R x with
  | none => exact Nat.zero_le _
  | some f => exact sumN_le DF.len hl
theorem used_put' {s : DK} {n : Nat} (hok : s.ok n) (x : Nm) (f : DF) : (usedR (putN s.R x f) : Int) = (usedR s.R : Int) + ((f.b.length : Int) - ((s.fileOf x).b.length : Int)) := by
  have h1 := used_put hok.rise x f
  have h2 : ((look s.R x).map DF.len).getD 0 = (s.fileOf x).b.length := by unfold DK.fileOf; cases look s.R x <;> rfl
  rw [h2] at h1
  omega
theorem exLk {P : Program} {o : Oper} {a : Act} {w : World} {t : TypeId} {m y : Operand} {M Y v : Value} {b : Bool} (ho : o.op = .lookup t m y b) (hm : a.eval m = M) (hy : a.eval y = Y) (h : (Instr.lookup t M Y b).run P w = .ok v w) : (execOp a.eval o).run P w = .ok (.value v) w := by
  simp [execOp, ho, hm, hy, h, Result.andThen]
/-- the pieces put together again -/
theorem PD.of {W : World} {p mb : Nat} {F H : Nat → Prop} {s : DK} {G : List (Nm × FV)} {L : List (Nm × RF)} (h1 : At W p (boxP mb s)) (h2 : MapIs MD W mb L) (hL : L.Perm (mapN FV.raw G)) (h3 : mapN FV.f G = s.R) (h4 : ∀ q ∈ G, FVat W F H q.2) (h5 : F p) (h6 : F mb) (h7 : ∀ k, F k → H k) (h8 : ∀ k, H k → k < W.heap.size) : PD W p F H s :=
  ⟨mb, G, h1, h2.perm hL, h3, h4, h5, h6, h7, h8⟩
set_option maxHeartbeats 3200000 in
theorem set_any (w : World) (p : Nat) (F H : Nat → Prop) (s : DK) (n : Nat) (h : PD w p F H s) (hok : s.ok n) (hn : n < 1000000) (x : Nm) (hx : x.length ≤ maxLen) (v : FV) (hv : FVat w F H v) (hvs : v.f.b.length ≤ 16777216) :
    Calls Try.prog 29 #[.pointer (some ⟨p, 0, none⟩), str x, v.raw.v] w fun e w' => e = .returned (.int .i64 0) ∧ PD w' p F H (s.lay (putN s.R x v.f)) ∧ Grew F w w' := by
  have hb1 : ∀ o, Below w.heap.size w (w.alloc o) := fun o => (Below.refl _ w).alloc (Nat.le_refl _) o
  obtain ⟨⟨vb, vs⟩, vg, vc⟩ := v
  obtain ⟨lv, hlv⟩ : ∃ lv, vb.length = lv := ⟨_, rfl⟩
  have hbox := At.new w 59 #[.slice (adr vg) lv vc, .int .i64 (vs : Int)]
  have hP1 := h.below (hb1 (.cells #[.slice (adr vg) lv vc, .int .i64 (vs : Int)] 59))
  have hV1 := hv.grew (S := fun _ => False) (Grew.below (hb1 (.cells #[.slice (adr vg) lv vc, .int .i64 (vs : Int)] 59))) (fun _ _ _ => id)
  have hG1 : Grew F w (w.alloc (.cells #[.slice (adr vg) lv vc, .int .i64 (vs : Int)] 59)) := Grew.below (hb1 _)
  have hfresh : ¬ H w.heap.size := fun hk => absurd (h.lt _ hk) (Nat.lt_irrefl _)
  have e0' : FV.raw ⟨⟨vb, vs⟩, vg, vc⟩ = ⟨vg, lv, vc, vs⟩ := by rw [← hlv]; rfl
  rw [e0']
  unfold RF.v str
  dsimp only at hvs
  rw [hlv] at hvs
  have hUo := used_put' hok x ⟨vb, vs⟩
  dsimp only at hUo
  rw [hlv] at hUo
  have hUold := old_le hok x
  have hU := hok.used
  have hR := hok.room
  have hF := hok.files
  have hC := hok.calls
  have hrise := hok.rise
  obtain ⟨room, calls, arm, keep, off, R⟩ := s
  dsimp only at hU hR hF hC hrise hUold hUo
  obtain ⟨U, hUe⟩ : ∃ U, usedR R = U := ⟨_, rfl⟩
  obtain ⟨U', hUe'⟩ : ∃ U', usedR (putN R x ⟨vb, vs⟩) = U' := ⟨_, rfl⟩
  rw [hUe] at hU hUold hUo
  rw [hUe'] at hUo
  go_enter Try.func29, Try.ntmps29
  go_wp2_with fail
  obtain ⟨mb, G, hA, hM, hG, hv1, hFp, hFm, hFH, hHl⟩ := hP1
  obtain ⟨g, c, hlk, _, _⟩ := tellG hM hG hv1 x hx
  obtain ⟨o, hoe⟩ : ∃ o, (DK.fileOf ⟨room, calls, arm, keep, off, R⟩ x).b.length = o := ⟨_, rfl⟩
  obtain ⟨os, hose⟩ : ∃ o, (DK.fileOf ⟨room, calls, arm, keep, off, R⟩ x).s = o := ⟨_, rfl⟩
  rw [hoe] at hUold hUo hlk
  rw [hose] at hlk
  dsimp only at hA
  rw [hUe] at hA
  have hws : (w.alloc (.cells #[.slice (adr vg) lv vc, .int .i64 (vs : Int)] 59)).heap.size = w.heap.size + 1 := by simp
  have hgl : w.heap.size < w.heap.size + 1 := Nat.lt_succ_self _
  rw [← hws] at hgl
  have hHl0 := h.lt
  clear h hv hok hfresh hws
  generalize w.alloc (.cells #[.slice (adr vg) lv vc, .int .i64 (vs : Int)] 59) = w1 at *
  have e0 := hA.e 0 rfl
  have e2 := hA.e 2 rfl
  have b0 := hbox.e 0 rfl
  have zc := hA.c 2 rfl
  have zf := hA.f 2 rfl
  have hfd := fld0
  unfold str at hlk
  have HS := Lib.hid (And.intro hA (And.intro hM (And.intro hG (And.intro hv1 (And.intro hFp (And.intro hFm (And.intro hFH hHl)))))))
  have HT := Lib.hid (And.intro hbox (And.intro hG1 (And.intro hV1 hrise)))
  have hw1 := hG1.size
  clear hA hM hG hv1 hFp hFm hFH hHl hbox hG1 hV1 hrise
  have hS0 : KB w1.heap w1.drew := KB.refl _
  refine bstartE (KB w1.heap) 19 (by kernel_rfl) ?_
  refine btakeE 0 [] (oi := _) (v := ?_) (by simp only [List.getElem?_toArray, List.getElem?_cons_succ, List.getElem?_cons_zero]; rfl) (by kernel_rfl) (by exact fun _ _ _ h => h) (by first | assumption | exact KB.refl _) (.inl ⟨by rfl, fun W hW => ?_⟩) ?_; rotate_left
  · (go_simp; first | done | with_reducible rfl)
  try simp only [Act.put, List.setIfInBounds_toArray, List.set_cons_zero, List.set_cons_succ]
  refine btakeE 1 [] (oi := _) (v := ?_) (by simp only [List.getElem?_toArray, List.getElem?_cons_succ, List.getElem?_cons_zero]; rfl) (by kernel_rfl) (by exact fun _ _ _ h => h) (by first | assumption | exact KB.refl _) (.inl ⟨by rfl, fun W hW => ?_⟩) ?_; rotate_left
  · (go_simp; first | done | with_reducible rfl)
  try simp only [Act.put, List.setIfInBounds_toArray, List.set_cons_zero, List.set_cons_succ]
  refine btakeE 2 [] (oi := _) (v := ?_) (by simp only [List.getElem?_toArray, List.getElem?_cons_succ, List.getElem?_cons_zero]; rfl) (by kernel_rfl) (by exact fun _ _ _ h => h) (by first | assumption | exact KB.refl _) (.inl ⟨by rfl, fun W hW => ?_⟩) ?_; rotate_left
  · (go_simp; first | done | with_reducible rfl)
  try simp only [Act.put, List.setIfInBounds_toArray, List.set_cons_zero, List.set_cons_succ]
  refine btakeE 3 [] (oi := _) (v := ?_) (by simp only [List.getElem?_toArray, List.getElem?_cons_succ, List.getElem?_cons_zero]; rfl) (by kernel_rfl) (by exact fun _ _ _ h => h) (by first | assumption | exact KB.refl _) (.inl ⟨by rfl, fun W hW => ?_⟩) ?_; rotate_left
  · (go_simp; first | done | with_reducible rfl)
  try simp only [Act.put, List.setIfInBounds_toArray, List.set_cons_zero, List.set_cons_succ]
  refine btakeE 4 [] (oi := _) (v := ?_) (by simp only [List.getElem?_toArray, List.getElem?_cons_succ, List.getElem?_cons_zero]; rfl) (by kernel_rfl) (by exact fun _ _ _ h => h) (by first | assumption | exact KB.refl _) (.inl ⟨by rfl, fun W hW => ?_⟩) ?_; rotate_left
  · (go_simp; first | done | with_reducible rfl)
  try simp only [Act.put, List.setIfInBounds_toArray, List.set_cons_zero, List.set_cons_succ]
  refine btakeE 5 [] (oi := _) (v := ?_) (by simp only [List.getElem?_toArray, List.getElem?_cons_succ, List.getElem?_cons_zero]; rfl) (by kernel_rfl) (by exact fun _ _ _ h => h) (by first | assumption | exact KB.refl _) (.inl ⟨by rfl, fun W hW => ?_⟩) ?_; rotate_left
  · (go_simp; first | done | with_reducible rfl)
  try simp only [Act.put, List.setIfInBounds_toArray, List.set_cons_zero, List.set_cons_succ]
  refine btakeE 6 [] (oi := _) (v := ?_) (by simp only [List.getElem?_toArray, List.getElem?_cons_succ, List.getElem?_cons_zero]; rfl) (by kernel_rfl) (by exact fun _ _ _ h => h) (by first | assumption | exact KB.refl _) (.inl ⟨by rfl, fun W hW => ?_⟩) ?_; rotate_left
  · (go_simp; first | done | with_reducible rfl)
  try simp only [Act.put, List.setIfInBounds_toArray, List.set_cons_zero, List.set_cons_succ]
  refine btakeE 7 [] (oi := _) (v := ?_) (by simp only [List.getElem?_toArray, List.getElem?_cons_succ, List.getElem?_cons_zero]; rfl) (by kernel_rfl) (by exact fun _ _ _ h => h) (by first | assumption | exact KB.refl _) (.inl ⟨by rfl, fun W hW => ?_⟩) ?_; rotate_left
  · (go_simp; first | done | with_reducible rfl)
  try simp only [Act.put, List.setIfInBounds_toArray, List.set_cons_zero, List.set_cons_succ]
  refine btakeE 8 [] (oi := _) (v := ?_) (by simp only [List.getElem?_toArray, List.getElem?_cons_succ, List.getElem?_cons_zero]; rfl) (by kernel_rfl) (by exact fun _ _ _ h => h) (by first | assumption | exact KB.refl _) (.inl ⟨by rfl, fun W hW => ?_⟩) ?_; rotate_left
  · (go_simp; first | done | with_reducible rfl)
  try simp only [Act.put, List.setIfInBounds_toArray, List.set_cons_zero, List.set_cons_succ]
  refine btakeE 9 [] (oi := _) (v := ?_) (by simp only [List.getElem?_toArray, List.getElem?_cons_succ, List.getElem?_cons_zero]; rfl) (by kernel_rfl) (by exact fun _ _ _ h => h) (by first | assumption | exact KB.refl _) (.inl ⟨by rfl, fun W hW => ?_⟩) ?_; rotate_left
  · (go_simp; first | done | with_reducible rfl)
  try simp only [Act.put, List.setIfInBounds_toArray, List.set_cons_zero, List.set_cons_succ]
  refine btakeE 10 [] (oi := _) (v := ?_) (by simp only [List.getElem?_toArray, List.getElem?_cons_succ, List.getElem?_cons_zero]; rfl) (by kernel_rfl) (by exact fun _ _ _ h => h) (by first | assumption | exact KB.refl _) (.inl ⟨by rfl, fun W hW => ?_⟩) ?_; rotate_left
  · (go_simp; first | done | with_reducible rfl)
  try simp only [Act.put, List.setIfInBounds_toArray, List.set_cons_zero, List.set_cons_succ]
  refine btakeE 11 [] (oi := _) (v := ?_) (by simp only [List.getElem?_toArray, List.getElem?_cons_succ, List.getElem?_cons_zero]; rfl) (by kernel_rfl) (by exact fun _ _ _ h => h) (by first | assumption | exact KB.refl _) (.inl ⟨by rfl, fun W hW => ?_⟩) ?_; rotate_left
  · (go_simp; first | done | with_reducible rfl)
  try simp only [Act.put, List.setIfInBounds_toArray, List.set_cons_zero, List.set_cons_succ]
  refine btakeE 12 [] (oi := _) (v := ?_) (by simp only [List.getElem?_toArray, List.getElem?_cons_succ, List.getElem?_cons_zero]; rfl) (by kernel_rfl) (by exact fun _ _ _ h => h) (by first | assumption | exact KB.refl _) (.inl ⟨by rfl, fun W hW => ?_⟩) ?_; rotate_left
  · refine Eq.trans (exLk (by rfl) (by rfl) (by rfl) (hlk W hW)) ?_
    with_reducible rfl
  try simp only [Act.put, List.setIfInBounds_toArray, List.set_cons_zero, List.set_cons_succ]
  refine btakeE 13 [] (oi := _) (v := ?_) (by simp only [List.getElem?_toArray, List.getElem?_cons_succ, List.getElem?_cons_zero]; rfl) (by kernel_rfl) (by exact fun _ _ _ h => h) (by first | assumption | exact KB.refl _) (.inl ⟨by rfl, fun W hW => ?_⟩) ?_; rotate_left
  · (go_simp; first | done | with_reducible rfl)
  try simp only [Act.put, List.setIfInBounds_toArray, List.set_cons_zero, List.set_cons_succ]
  refine btakeE 14 [] (oi := _) (v := ?_) (by simp only [List.getElem?_toArray, List.getElem?_cons_succ, List.getElem?_cons_zero]; rfl) (by kernel_rfl) (by exact fun _ _ _ h => h) (by first | assumption | exact KB.refl _) (.inl ⟨by rfl, fun W hW => ?_⟩) ?_; rotate_left
  · (go_simp; first | done | with_reducible rfl)
  try simp only [Act.put, List.setIfInBounds_toArray, List.set_cons_zero, List.set_cons_succ]
  refine btakeE 15 [] (oi := _) (v := ?_) (by simp only [List.getElem?_toArray, List.getElem?_cons_succ, List.getElem?_cons_zero]; rfl) (by kernel_rfl) (by exact fun _ _ _ h => h) (by first | assumption | exact KB.refl _) (.inl ⟨by rfl, fun W hW => ?_⟩) ?_; rotate_left
  · (go_simp; first | done | with_reducible rfl)
  try simp only [Act.put, List.setIfInBounds_toArray, List.set_cons_zero, List.set_cons_succ]
  refine btakeE 16 [] (oi := _) (v := ?_) (by simp only [List.getElem?_toArray, List.getElem?_cons_succ, List.getElem?_cons_zero]; rfl) (by kernel_rfl) (by exact fun _ _ _ h => h) (by first | assumption | exact KB.refl _) (.inl ⟨by rfl, fun W hW => ?_⟩) ?_; rotate_left
  · (go_simp; first | done | with_reducible rfl)
  try simp only [Act.put, List.setIfInBounds_toArray, List.set_cons_zero, List.set_cons_succ]
  refine btakeE 17 [18] (oi := _) (v := ?_) (by simp only [List.getElem?_toArray, List.getElem?_cons_succ, List.getElem?_cons_zero]; rfl) (by kernel_rfl) (by exact fun _ _ _ h => h) (by first | assumption | exact KB.refl _) (.inl ⟨by rfl, fun W hW => ?_⟩) ?_; rotate_left
  · (go_simp; first | done | with_reducible rfl)
  try simp only [Act.put, List.setIfInBounds_toArray, List.set_cons_zero, List.set_cons_succ]
  refine btakeE 18 [] (oi := _) (v := ?_) (by simp only [List.getElem?_toArray, List.getElem?_cons_succ, List.getElem?_cons_zero]; rfl) (by kernel_rfl) (by exact fun _ _ _ h => h) (by first | assumption | exact KB.refl _) (.inl ⟨by rfl, fun W hW => ?_⟩) ?_; rotate_left
  · (go_simp; first | done | with_reducible rfl)
  try simp only [Act.put, List.setIfInBounds_toArray, List.set_cons_zero, List.set_cons_succ]
  -- 19: Op.store 3 (Operand.tmp 25) (Operand.tmp 23)
  refine blastE 19 (o := _) (by simp only [List.getElem?_toArray, List.getElem?_cons_succ, List.getElem?_cons_zero]; rfl) (by kernel_rfl) (by rfl) (by rfl) (fun K hK => ?_)
  go_simp
  skip
  refine hK.out _ _ ?_; clear hK K
  try simp only [Act.put, List.setIfInBounds_toArray, List.set_cons_zero, List.set_cons_succ]
  refine bdoneE (by kernel_rfl) ?_
  have hwr : IntKind.i64.wrap ((U : Int) + IntKind.i64.wrap ((lv : Int) - (o : Int))) = (U' : Int) := by
    rw [IntKind.wrap_i64, IntKind.wrap_i64]; omega
  rw [hwr]
  obtain ⟨hA, hM, hG, hv1, hFp, hFm, hFH, hHl⟩ := HS.out
  obtain ⟨hbox, hG1, hV1, hrise⟩ := HT.out
  have hne : mb ≠ p := PD.ne hA hM
  have hgp : w.heap.size ≠ p := fun e => absurd (hHl0 _ (e ▸ hFH _ hFp)) (Nat.lt_irrefl _)
  have hA2 := (hA.set 2 (.int .i64 (U' : Int)) (by simp)).drew
  have hM2 := (hM.setCell (a := ⟨p, 2, none⟩) hne (.int .i64 (U' : Int))).drew
  have hbox2 := (hbox.set_other (g' := p) 2 (.int .i64 (U' : Int)) (fun e => hgp e.symm)).drew
  have hG2 : Grew F w ((w1.setCell ⟨p, 2, none⟩ (.int .i64 (U' : Int))).drew) := (hG1.put (.inl hFp) _).drew
  have hG12 : Grew F w1 ((w1.setCell ⟨p, 2, none⟩ (.int .i64 (U' : Int))).drew) := ((Grew.refl F w1).put (.inl hFp) _).drew
  clear hA hM hbox hlk e0 e2 b0 zc zf hfd hS0 hG1 hwr
  generalize (w1.setCell ⟨p, 2, none⟩ (.int .i64 (U' : Int))).drew = w2 at *
  have e0 := hA2.e 0 rfl
  have b0 := hbox2.e 0 rfl
  have b1 := hbox2.e 1 rfl
  have HX := Lib.hid (And.intro hA2 (And.intro hM2 (And.intro hG2 (And.intro hG12 (And.intro hne hrise)))))
  have HY := Lib.hid (And.intro hG (And.intro hv1 (And.intro hFp (And.intro hFm (And.intro hFH (And.intro hHl hV1))))))
  clear hA2 hM2 hbox2 hG2 hG12 hne hrise hG hv1 hFp hFm hFH hHl hV1 HS HT
  go_wp2_with fail
  have hS0 : KB w2.heap w2.drew := KB.refl _
  refine bstartE (KB w2.heap) 6 (by kernel_rfl) ?_
  refine btakeE 0 [] (oi := _) (v := ?_) (by simp only [List.getElem?_toArray, List.getElem?_cons_succ, List.getElem?_cons_zero]; rfl) (by kernel_rfl) (by exact fun _ _ _ h => h) (by first | assumption | exact KB.refl _) (.inl ⟨by rfl, fun W hW => ?_⟩) ?_; rotate_left
  · (go_simp; first | done | with_reducible rfl)
  try simp only [Act.put, List.setIfInBounds_toArray, List.set_cons_zero, List.set_cons_succ]
  refine btakeE 1 [] (oi := _) (v := ?_) (by simp only [List.getElem?_toArray, List.getElem?_cons_succ, List.getElem?_cons_zero]; rfl) (by kernel_rfl) (by exact fun _ _ _ h => h) (by first | assumption | exact KB.refl _) (.inl ⟨by rfl, fun W hW => ?_⟩) ?_; rotate_left
  · (go_simp; first | done | with_reducible rfl)
  try simp only [Act.put, List.setIfInBounds_toArray, List.set_cons_zero, List.set_cons_succ]
  refine btakeE 2 [] (oi := _) (v := ?_) (by simp only [List.getElem?_toArray, List.getElem?_cons_succ, List.getElem?_cons_zero]; rfl) (by kernel_rfl) (by exact fun _ _ _ h => h) (by first | assumption | exact KB.refl _) (.inl ⟨by rfl, fun W hW => ?_⟩) ?_; rotate_left
  · (go_simp; first | done | with_reducible rfl)
  try simp only [Act.put, List.setIfInBounds_toArray, List.set_cons_zero, List.set_cons_succ]
  refine btakeE 3 [] (oi := _) (v := ?_) (by simp only [List.getElem?_toArray, List.getElem?_cons_succ, List.getElem?_cons_zero]; rfl) (by kernel_rfl) (by exact fun _ _ _ h => h) (by first | assumption | exact KB.refl _) (.inl ⟨by rfl, fun W hW => ?_⟩) ?_; rotate_left
  · (go_simp; first | done | with_reducible rfl)
  try simp only [Act.put, List.setIfInBounds_toArray, List.set_cons_zero, List.set_cons_succ]
  refine btakeE 4 [] (oi := _) (v := ?_) (by simp only [List.getElem?_toArray, List.getElem?_cons_succ, List.getElem?_cons_zero]; rfl) (by kernel_rfl) (by exact fun _ _ _ h => h) (by first | assumption | exact KB.refl _) (.inl ⟨by rfl, fun W hW => ?_⟩) ?_; rotate_left
  · (go_simp; first | done | with_reducible rfl)
  try simp only [Act.put, List.setIfInBounds_toArray, List.set_cons_zero, List.set_cons_succ]
  refine btakeE 5 [] (oi := _) (v := ?_) (by simp only [List.getElem?_toArray, List.getElem?_cons_succ, List.getElem?_cons_zero]; rfl) (by kernel_rfl) (by exact fun _ _ _ h => h) (by first | assumption | exact KB.refl _) (.inl ⟨by rfl, fun W hW => ?_⟩) ?_; rotate_left
  · (go_simp; first | done | with_reducible rfl)
  try simp only [Act.put, List.setIfInBounds_toArray, List.set_cons_zero, List.set_cons_succ]
  -- 6: Op.mapUpdate 53 (Operand.tmp 29) (Operand.tmp 30) (Operand.tmp 31)
  refine blastE 6 (o := _) (by simp only [List.getElem?_toArray, List.getElem?_cons_succ, List.getElem?_cons_zero]; rfl) (by kernel_rfl) (by rfl) (by rfl) (fun K hK => ?_)
  refine wp_mput (by rfl) HX.out.2.1.drew ?_ (by rfl) (c := x) (by rfl) hx (d := ⟨vg, lv, vc, vs⟩) (by rfl) ?_
  · rw [mapN_len, ← mapN_len FV.f, HY.out.1]
    simp only [maxLen]
    omega
  intro w3 hm3 ht3
  refine hK.out _ _ ?_; clear hK K
  try simp only [Act.put, List.setIfInBounds_toArray, List.set_cons_zero, List.set_cons_succ]
  refine bdoneE (by kernel_rfl) ?_
  obtain ⟨hA2, hM2, hG2, hG12, hne, hrise⟩ := HX.out
  have hg23 : Grew F w2 w3 := (Grew.grown (S := F) ht3.grown (fun r e => by injection e with e; rw [← e]; exact HY.out.2.2.2.1)).ofDrew
  have hA3 : At w3 p _ := hA2.drew.grown ht3.grown (fun e => hne (Option.some.inj e))
  have hg3 : Grew F w w3 := hG2.trans hg23 (fun _ _ => id)
  have hg13 : Grew F w1 w3 := hG12.trans hg23 (fun _ _ => id)
  have hm3' := hm3
  clear e0 b0 b1 hS0 ht3 hm3 hG2 hG12 hA2 hM2 hg23
  have c3 := hA3.c 3 rfl
  have f3 := hA3.f 3 rfl
  have HZ := Lib.hid (And.intro hA3 (And.intro hm3' (And.intro hg3 (And.intro hg13 hne))))
  clear hA3 hm3' hg3 hg13 hne HX
  have hc1 : IntKind.i64.wrap (calls + 1) = calls + 1 := by rw [IntKind.wrap_i64]; omega
  go_wp2
  go_ret
  refine ⟨rfl, ?_⟩
  obtain ⟨hA3, hm3, hg3, hg13, hne⟩ := HZ.out
  obtain ⟨hG, hv1, hFp, hFm, hFH, hHl, hV1⟩ := HY.out
  have hRG : RiseN (mapN FV.raw G) := by rw [mapN_rise, ← mapN_rise (f := FV.f), hG]; exact hrise
  have hg14 : Grew F w1 (w3.setCell ⟨p, 3, none⟩ (.int .i64 (calls + 1))) := hg13.put (.inl hFp) _
  refine ⟨PD.of (G := putN G x ⟨⟨vb, vs⟩, vg, vc⟩) (L := putA (mapN FV.raw G) x ⟨vg, lv, vc, vs⟩) ?_ (hm3.setCell hne _) ?_ ?_ (fun q hq => ?_) hFp hFm hFH (fun k hk => Nat.lt_of_lt_of_le (hHl k hk) hg14.size), hg3.put (.inl hFp) _⟩
  · have := hA3.set 3 (.int .i64 (calls + 1)) (by simp)
    rw [← hUe'] at this
    exact this
  · rw [mapN_put, e0']
    exact putN_perm hRG x _
  · rw [mapN_put, hG]
    rfl
  · have hq' : FVat w1 F H q.2 := by
      rcases mem_putN hq with e | hq
      · rw [e]; exact hV1
      · exact hv1 q hq
    exact hq'.grew hg14 (fun _ _ h => h)
end Go.Proofs.Ythnbnhlfiehihaa

