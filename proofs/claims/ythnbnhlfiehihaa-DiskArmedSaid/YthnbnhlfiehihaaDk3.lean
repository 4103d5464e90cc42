/- Disks: the program's gone. -/
import Derived.Test.YthnbnhlfiehihaaDk2
namespace Go.Proofs.Ythnbnhlfiehihaa
open Go.RowKit Go.Maps
set_option maxRecDepth 20000

theorem used_del' {s : DK} {n : Nat} (hok : s.ok n) (x : Nm) : (usedR (delA s.R x) : Int) = (usedR s.R : Int) - ((s.fileOf x).b.length : Int) := by
  have h1 := used_del hok.rise x
  have h2 : ((look s.R x).map DF.len).getD 0 = (s.fileOf x).b.length := by unfold DK.fileOf; cases look s.R x <;> rfl
  rw [h2] at h1
  omega
set_option maxHeartbeats 3200000 in
theorem gone_any (w : World) (p : Nat) (F H : Nat → Prop) (s : DK) (n : Nat) (h : PD w p F H s) (hok : s.ok n) (x : Nm) (hx : x.length ≤ maxLen) :
    Calls Try.prog 58 #[.pointer (some ⟨p, 0, none⟩), str x] w fun e w' => e = .returned (.tuple #[]) ∧ PD w' p F H { s with R := delA s.R x } ∧ Grew F w w' := by
  have hUo := used_del' hok x
  have hUold := old_le hok x
  have hU := hok.used
  have hR := hok.room
  have hrise := hok.rise
  obtain ⟨room, calls, arm, keep, off, R⟩ := s
  dsimp only at hU hR hrise hUold hUo
  obtain ⟨mb, G, hA, hM, hG, hv1, hFp, hFm, hFH, hHl⟩ := h
  obtain ⟨g, c, hlk, _, _⟩ := tellG hM hG hv1 x hx
  obtain ⟨o, hoe⟩ : ∃ o, (DK.fileOf ⟨room, calls, arm, keep, off, R⟩ x).b.length = o := ⟨_, rfl⟩
  obtain ⟨os, hose⟩ : ∃ o, (DK.fileOf ⟨room, calls, arm, keep, off, R⟩ x).s = o := ⟨_, rfl⟩
  obtain ⟨U, hUe⟩ : ∃ U, usedR R = U := ⟨_, rfl⟩
  obtain ⟨U', hUe'⟩ : ∃ U', usedR (delA R x) = U' := ⟨_, rfl⟩
  rw [hoe, hUe] at hUold hUo
  rw [hoe, hose] at hlk
  rw [hUe'] at hUo
  rw [hUe] at hU
  dsimp only at hA
  rw [hUe] at hA
  clear hok
  have hKx : MD.mkK x = str x := rfl
  unfold str at hlk hKx ⊢
  have e0 := hA.e 0 rfl
  have e2 := hA.e 2 rfl
  have zc := hA.c 2 rfl
  have zf := hA.f 2 rfl
  have hfd := fld0
  have HS := Lib.hid (And.intro hA (And.intro hM (And.intro hG (And.intro hv1 (And.intro hFp (And.intro hFm (And.intro hFH (And.intro hHl hrise))))))))
  clear hA hM hG hv1 hFp hFm hFH hHl hrise
  go_enter Try.func58, Try.ntmps58
  go_wp2_with fail
  have hS0 : KB w.heap w.drew := KB.refl _
  refine bstartE (KB w.heap) 15 (by kernel_rfl) ?_
  refine btakeE 0 [] (oi := _) (v := ?_) (by simp only [List.getElem?_toArray, List.getElem?_cons_succ, List.getElem?_cons_zero]; rfl) (by kernel_rfl) (by exact fun _ _ _ h => h) (by first | assumption | exact KB.refl _) (.inl ⟨by rfl, fun W hW => ?_⟩) ?_; rotate_left
  · (go_simp; first | done | with_reducible rfl)
  try simp only [Act.put, List.setIfInBounds_toArray, List.set_cons_zero, List.set_cons_succ]
  refine btakeE 1 [] (oi := _) (v := ?_) (by simp only [List.getElem?_toArray, List.getElem?_cons_succ, List.getElem?_cons_zero]; rfl) (by kernel_rfl) (by exact fun _ _ _ h => h) (by first | assumption | exact KB.refl _) (.inl ⟨by rfl, fun W hW => ?_⟩) ?_; rotate_left
  · (go_simp; first | done | with_reducible rfl)
  try simp only [Act.put, List.setIfInBounds_toArray, List.set_cons_zero, List.set_cons_succ]
  refine btakeE 2 [] (oi := _) (v := ?_) (by simp only [List.getElem?_toArray, List.getElem?_cons_succ, List.getElem?_cons_zero]; rfl) (by kernel_rfl) (by exact fun _ _ _ h => h) (by first | assumption | exact KB.refl _) (.inl ⟨by rfl, fun W hW => ?_⟩) ?_; rotate_left
  · (go_simp; first | done | with_reducible rfl)
  try simp only [Act.put, List.setIfInBounds_toArray, List.set_cons_zero, List.set_cons_succ]
  refine btakeE 3 [] (oi := _) (v := ?_) (by simp only [List.getElem?_toArray, List.getElem?_cons_succ, List.getElem?_cons_zero]; rfl) (by kernel_rfl) (by exact fun _ _ _ h => h) (by first | assumption | exact KB.refl _) (.inl ⟨by rfl, fun W hW => ?_⟩) ?_; rotate_left
  · (go_simp; first | done | with_reducible rfl)
  try simp only [Act.put, List.setIfInBounds_toArray, List.set_cons_zero, List.set_cons_succ]
  refine btakeE 4 [] (oi := _) (v := ?_) (by simp only [List.getElem?_toArray, List.getElem?_cons_succ, List.getElem?_cons_zero]; rfl) (by kernel_rfl) (by exact fun _ _ _ h => h) (by first | assumption | exact KB.refl _) (.inl ⟨by rfl, fun W hW => ?_⟩) ?_; rotate_left
  · (go_simp; first | done | with_reducible rfl)
  try simp only [Act.put, List.setIfInBounds_toArray, List.set_cons_zero, List.set_cons_succ]
  refine btakeE 5 [] (oi := _) (v := ?_) (by simp only [List.getElem?_toArray, List.getElem?_cons_succ, List.getElem?_cons_zero]; rfl) (by kernel_rfl) (by exact fun _ _ _ h => h) (by first | assumption | exact KB.refl _) (.inl ⟨by rfl, fun W hW => ?_⟩) ?_; rotate_left
  · (go_simp; first | done | with_reducible rfl)
  try simp only [Act.put, List.setIfInBounds_toArray, List.set_cons_zero, List.set_cons_succ]
  refine btakeE 6 [] (oi := _) (v := ?_) (by simp only [List.getElem?_toArray, List.getElem?_cons_succ, List.getElem?_cons_zero]; rfl) (by kernel_rfl) (by exact fun _ _ _ h => h) (by first | assumption | exact KB.refl _) (.inl ⟨by rfl, fun W hW => ?_⟩) ?_; rotate_left
  · (go_simp; first | done | with_reducible rfl)
  try simp only [Act.put, List.setIfInBounds_toArray, List.set_cons_zero, List.set_cons_succ]
  refine btakeE 7 [] (oi := _) (v := ?_) (by simp only [List.getElem?_toArray, List.getElem?_cons_succ, List.getElem?_cons_zero]; rfl) (by kernel_rfl) (by exact fun _ _ _ h => h) (by first | assumption | exact KB.refl _) (.inl ⟨by rfl, fun W hW => ?_⟩) ?_; rotate_left
  · (go_simp; first | done | with_reducible rfl)
  try simp only [Act.put, List.setIfInBounds_toArray, List.set_cons_zero, List.set_cons_succ]
  refine btakeE 8 [] (oi := _) (v := ?_) (by simp only [List.getElem?_toArray, List.getElem?_cons_succ, List.getElem?_cons_zero]; rfl) (by kernel_rfl) (by exact fun _ _ _ h => h) (by first | assumption | exact KB.refl _) (.inl ⟨by rfl, fun W hW => ?_⟩) ?_; rotate_left
  · (go_simp; first | done | with_reducible rfl)
  try simp only [Act.put, List.setIfInBounds_toArray, List.set_cons_zero, List.set_cons_succ]
  refine btakeE 9 [] (oi := _) (v := ?_) (by simp only [List.getElem?_toArray, List.getElem?_cons_succ, List.getElem?_cons_zero]; rfl) (by kernel_rfl) (by exact fun _ _ _ h => h) (by first | assumption | exact KB.refl _) (.inl ⟨by rfl, fun W hW => ?_⟩) ?_; rotate_left
  · refine Eq.trans (exLk (by rfl) (by rfl) (by rfl) (hlk W hW)) ?_
    with_reducible rfl
  try simp only [Act.put, List.setIfInBounds_toArray, List.set_cons_zero, List.set_cons_succ]
  refine btakeE 10 [] (oi := _) (v := ?_) (by simp only [List.getElem?_toArray, List.getElem?_cons_succ, List.getElem?_cons_zero]; rfl) (by kernel_rfl) (by exact fun _ _ _ h => h) (by first | assumption | exact KB.refl _) (.inl ⟨by rfl, fun W hW => ?_⟩) ?_; rotate_left
  · (go_simp; first | done | with_reducible rfl)
  try simp only [Act.put, List.setIfInBounds_toArray, List.set_cons_zero, List.set_cons_succ]
  refine btakeE 11 [] (oi := _) (v := ?_) (by simp only [List.getElem?_toArray, List.getElem?_cons_succ, List.getElem?_cons_zero]; rfl) (by kernel_rfl) (by exact fun _ _ _ h => h) (by first | assumption | exact KB.refl _) (.inl ⟨by rfl, fun W hW => ?_⟩) ?_; rotate_left
  · (go_simp; first | done | with_reducible rfl)
  try simp only [Act.put, List.setIfInBounds_toArray, List.set_cons_zero, List.set_cons_succ]
  refine btakeE 12 [] (oi := _) (v := ?_) (by simp only [List.getElem?_toArray, List.getElem?_cons_succ, List.getElem?_cons_zero]; rfl) (by kernel_rfl) (by exact fun _ _ _ h => h) (by first | assumption | exact KB.refl _) (.inl ⟨by rfl, fun W hW => ?_⟩) ?_; rotate_left
  · (go_simp; first | done | with_reducible rfl)
  try simp only [Act.put, List.setIfInBounds_toArray, List.set_cons_zero, List.set_cons_succ]
  refine btakeE 13 [14] (oi := _) (v := ?_) (by simp only [List.getElem?_toArray, List.getElem?_cons_succ, List.getElem?_cons_zero]; rfl) (by kernel_rfl) (by exact fun _ _ _ h => h) (by first | assumption | exact KB.refl _) (.inl ⟨by rfl, fun W hW => ?_⟩) ?_; rotate_left
  · (go_simp; first | done | with_reducible rfl)
  try simp only [Act.put, List.setIfInBounds_toArray, List.set_cons_zero, List.set_cons_succ]
  refine btakeE 14 [] (oi := _) (v := ?_) (by simp only [List.getElem?_toArray, List.getElem?_cons_succ, List.getElem?_cons_zero]; rfl) (by kernel_rfl) (by exact fun _ _ _ h => h) (by first | assumption | exact KB.refl _) (.inl ⟨by rfl, fun W hW => ?_⟩) ?_; rotate_left
  · (go_simp; first | done | with_reducible rfl)
  try simp only [Act.put, List.setIfInBounds_toArray, List.set_cons_zero, List.set_cons_succ]
  -- 15: Op.store 3 (Operand.tmp 18) (Operand.tmp 16)
  refine blastE 15 (o := _) (by simp only [List.getElem?_toArray, List.getElem?_cons_succ, List.getElem?_cons_zero]; rfl) (by kernel_rfl) (by rfl) (by rfl) (fun K hK => ?_)
  go_simp
  skip
  refine hK.out _ _ ?_; clear hK K
  try simp only [Act.put, List.setIfInBounds_toArray, List.set_cons_zero, List.set_cons_succ]
  refine bdoneE (by kernel_rfl) ?_
  rw [← hUo]
  have hwU : IntKind.i64.wrap (U' : Int) = (U' : Int) := by rw [IntKind.wrap_i64]; omega
  try rw [hwU]
  obtain ⟨hA, hM, hG, hv1, hFp, hFm, hFH, hHl, hrise⟩ := HS.out
  have hne : mb ≠ p := PD.ne hA hM
  have hA2 := (hA.set 2 (.int .i64 (U' : Int)) (by simp)).drew
  have hM2 := (hM.setCell (a := ⟨p, 2, none⟩) hne (.int .i64 (U' : Int))).drew
  have hG2 : Grew F w ((w.setCell ⟨p, 2, none⟩ (.int .i64 (U' : Int))).drew) := ((Grew.refl F w).put (.inl hFp) _).drew
  clear hA hM hlk e0 e2 zc zf hfd hS0
  generalize (w.setCell ⟨p, 2, none⟩ (.int .i64 (U' : Int))).drew = w2 at *
  have c0 := hA2.c 0 rfl
  obtain ⟨w3, hrun, hm3, ht3⟩ := hM2.drop_run hx 0
  rw [hKx] at hrun
  have hA3 : At w3 p _ := hA2.grown ht3.grown (fun e => hne (Option.some.inj e))
  have hg3 : Grew F w w3 := hG2.trans (Grew.grown (S := F) ht3.grown (fun r e => by injection e with e; rw [← e]; exact hFm)) (fun _ _ => id)
  have HZ := Lib.hid (And.intro hA3 (And.intro hm3 (And.intro hg3 (And.intro hG (And.intro hv1 (And.intro hFp (And.intro hFm (And.intro hFH hHl))))))))
  clear hA3 hm3 hg3 hG hv1 hFp hFm hFH hHl ht3 hA2 hM2 hG2 HS
  go_wp2
  go_end0
  obtain ⟨hA3, hm3, hg3, hG, hv1, hFp, hFm, hFH, hHl⟩ := HZ.out
  refine ⟨rfl, PD.of (G := delA G x) (L := delA (mapN FV.raw G) x) ?_ hm3 ?_ ?_ (fun q hq => (hv1 q (List.mem_filter.1 hq).1).grew hg3 (fun _ _ h => h)) hFp hFm hFH (fun k hk => Nat.lt_of_lt_of_le (hHl k hk) hg3.size), hg3⟩
  · rw [← hUe'] at hA3
    exact hA3
  · rw [mapN_del]
  · rw [mapN_del, hG]
end Go.Proofs.Ythnbnhlfiehihaa

