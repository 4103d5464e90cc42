/- Disks: the program's behind. -/
import Derived.Test.YthnbnhlfiehihaaDk6
namespace Go.Proofs.Ythnbnhlfiehihaa
open Go.RowKit Go.Maps
set_option maxRecDepth 20000

set_option maxRecDepth 100000 in
set_option maxHeartbeats 1600000 in
theorem behind_any (w : World) (p : Nat) (F H : Nat → Prop) (s : DK) (h : PD w p F H s) (x : Nm) (hx : x.length ≤ maxLen) (A : Option Addr) (c l : Nat) (b : List UInt8) (hl : b.length = l) (hS : Sl w w.heap.size A (bv b)) (h1 : (s.fileOf x).b.length ≤ 16777216) (h2 : l ≤ 16777216) :
    Calls Try.prog 31 #[.pointer (some ⟨p, 0, none⟩), str x, .slice A l c] w fun e w' => ∃ g c', e = .returned (.agg #[.slice (adr g) ((s.fileOf x).b.length + l) c', .int .i64 ((s.fileOf x).s : Int)]) ∧ FrV w w' ⟨(s.fileOf x).behind b, g, c'⟩ ∧ Below w.heap.size w w' := by
  obtain ⟨mb, fg, fc, hA, hlk, _, hfv⟩ := h.tell x hx
  clear h
  generalize s.fileOf x = f at *
  obtain ⟨fb, fs⟩ := f
  obtain ⟨fl, hfl⟩ : ∃ fl, fb.length = fl := ⟨_, rfl⟩
  dsimp only [DF.behind] at hlk h1 ⊢
  rw [hfl] at hlk h1 ⊢
  obtain ⟨fA, hfA⟩ : ∃ fA, adr fg = fA := ⟨_, rfl⟩
  have hfs := hfv.1
  dsimp only at hfs
  rw [hfA] at hlk hfs
  clear hfv hfA
  have c0 := (hA.alloc (.cells #[.slice none 0 0, .int .i64 0] 59)).c 0 rfl
  have hlk1 := hlk (w.alloc (.cells #[.slice none 0 0, .int .i64 0] 59)) (KB.alloc w _)
  have hb1 : Below w.heap.size w ((w.alloc (.cells #[.slice none 0 0, .int .i64 0] 59)).alloc (.cells #[.slice fA fl fc, .int .i64 (fs : Int)] 59)) := ((Below.refl _ w).alloc (Nat.le_refl _) _).alloc (by simp) _
  have hk1 := (At.new w 59 #[.slice none 0 0, .int .i64 0]).alloc (.cells #[.slice fA fl fc, .int .i64 (fs : Int)] 59)
  have hk2 := At.new (w.alloc (.cells #[.slice none 0 0, .int .i64 0] 59)) 59 #[.slice fA fl fc, .int .i64 (fs : Int)]
  rw [World.size_alloc] at hk2
  have HX := Lib.hid (And.intro ((hfs.below' hb1).more hb1.size) ((hS.below' hb1).more hb1.size))
  clear hlk hA hfs hS
  go_enter Try.func31, Try.ntmps31
  go_wp2_with fail
  have hws : ((w.alloc (.cells #[.slice none 0 0, .int .i64 0] 59)).alloc (.cells #[.slice fA fl fc, .int .i64 (fs : Int)] 59)).heap.size = w.heap.size + 2 := by simp
  generalize (w.alloc (.cells #[.slice none 0 0, .int .i64 0] 59)).alloc (.cells #[.slice fA fl fc, .int .i64 (fs : Int)] 59) = w1 at *
  have e0 := hk2.e 0 rfl
  have e1 := hk2.e 1 rfl
  have HK := Lib.hid (And.intro hk1 hb1)
  have HL := Lib.hid (And.intro hl hfl)
  clear hk1 hk2 hb1 c0 hlk1
  have hS0 : KB w1.heap w1.drew := KB.refl _
  refine bstartE (KB w1.heap) 8 (by kernel_rfl) ?_
  refine btakeE 0 [] (oi := _) (v := ?_) (by simp only [List.getElem?_toArray, List.getElem?_cons_succ, List.getElem?_cons_zero]; rfl) (by kernel_rfl) (by exact fun _ _ _ h => h) (by first | assumption | exact KB.refl _) (.inl ⟨by rfl, fun W hW => ?_⟩) ?_; rotate_left
  · (go_simp; first | done | with_reducible rfl)
  try simp only [Act.put, List.setIfInBounds_toArray, List.set_cons_zero, List.set_cons_succ]
  refine btakeE 1 [] (oi := _) (v := ?_) (by simp only [List.getElem?_toArray, List.getElem?_cons_succ, List.getElem?_cons_zero]; rfl) (by kernel_rfl) (by exact fun _ _ _ h => h) (by first | assumption | exact KB.refl _) (.inl ⟨by rfl, fun W hW => ?_⟩) ?_; rotate_left
  · (go_simp; first | done | with_reducible rfl)
  try simp only [Act.put, List.setIfInBounds_toArray, List.set_cons_zero, List.set_cons_succ]
  refine btakeE 3 [] (oi := _) (v := ?_) (by simp only [List.getElem?_toArray, List.getElem?_cons_succ, List.getElem?_cons_zero]; rfl) (by kernel_rfl) (by exact fun _ _ _ h => h) (by first | assumption | exact KB.refl _) (.inl ⟨by rfl, fun W hW => ?_⟩) ?_; rotate_left
  · (go_simp; first | done | with_reducible rfl)
  try simp only [Act.put, List.setIfInBounds_toArray, List.set_cons_zero, List.set_cons_succ]
  refine btakeE 5 [] (oi := _) (v := ?_) (by simp only [List.getElem?_toArray, List.getElem?_cons_succ, List.getElem?_cons_zero]; rfl) (by kernel_rfl) (by exact fun _ _ _ h => h) (by first | assumption | exact KB.refl _) (.inl ⟨by rfl, fun W hW => ?_⟩) ?_; rotate_left
  · (go_simp; first | done | with_reducible rfl)
  try simp only [Act.put, List.setIfInBounds_toArray, List.set_cons_zero, List.set_cons_succ]
  refine btakeE 6 [] (oi := _) (v := ?_) (by simp only [List.getElem?_toArray, List.getElem?_cons_succ, List.getElem?_cons_zero]; rfl) (by kernel_rfl) (by exact fun _ _ _ h => h) (by first | assumption | exact KB.refl _) (.inl ⟨by rfl, fun W hW => ?_⟩) ?_; rotate_left
  · (go_simp; first | done | with_reducible rfl)
  try simp only [Act.put, List.setIfInBounds_toArray, List.set_cons_zero, List.set_cons_succ]
  -- 2: bytes.Clone
  refine bopE 2 (o := _) (by simp only [List.getElem?_toArray, List.getElem?_cons_succ, List.getElem?_cons_zero]; rfl) (by kernel_rfl) (by rfl) (fun K hK => ?_)
  go_simp
  refine (Clone_any w1.drew w1.heap.size fA fl fc fb HX.out.1 HL.out.2.symm (by rw [HL.out.2]; omega)).mono ?_
  rintro e w2 ⟨A2, c2, rfl, hown, hb2⟩
  have hb2' : Below w1.heap.size w1 w2 := ⟨hb2.os, hb2.tape, hb2.output, hb2.size, hb2.block⟩
  have hkb : KB w1.heap w2 := KB.of hb2'
  have HO := Lib.hid (And.intro hown hb2')
  clear hown hb2 hb2'
  refine hK.out _ _ hkb ?_; clear hK K
  try simp only [Act.put, List.setIfInBounds_toArray, List.set_cons_zero, List.set_cons_succ]
  -- 4: Op.call { callee := Callee.builtin Builtin.append, args := #[Operand.tmp 16, Operand.tmp 17], argTypes := #[22, 22] }
  refine bopE 4 (o := _) (by simp only [List.getElem?_toArray, List.getElem?_cons_succ, List.getElem?_cons_zero]; rfl) (by kernel_rfl) (by rfl) (fun K hK => ?_)
  refine wp_app (by rfl) HO.out.1 ((HX.out.2.below HO.out.2)) HL.out.1.symm (by rw [HL.out.2]; rfl) (by rfl) (by rw [HL.out.1, HL.out.2]; omega) HO.out.2.size ?_
  intro v3 w3 hown3 hg3 hat3
  have hb3 : Below w1.heap.size w1 w3 := own_below HO.out.2 HO.out.2.size HO.out.1 hg3
  obtain ⟨A3, c3, hv3, _⟩ := hown3.form
  rw [List.length_append, HL.out.1, HL.out.2] at hv3
  subst hv3
  have hkb : KB w1.heap w3 := KB.of hb3
  have hk3 := HK.out.1.below hb3
  have z0 := hk3.c 0 rfl
  have z1 := hk3.c 1 rfl
  have f0 := hk3.f 0 rfl
  have f1 := hk3.f 1 rfl
  have HP := Lib.hid (And.intro hown3 (And.intro hb3 hk3))
  clear hown3 hb3 hk3 hg3 hat3
  refine hK.out _ _ hkb ?_; clear hK K
  try simp only [Act.put, List.setIfInBounds_toArray, List.set_cons_zero, List.set_cons_succ]
  refine btakeE 7 [] (oi := _) (v := ?_) (by simp only [List.getElem?_toArray, List.getElem?_cons_succ, List.getElem?_cons_zero]; rfl) (by kernel_rfl) (by exact fun _ _ _ h => h) (by first | assumption | exact KB.refl _) (.inl ⟨by rfl, fun W hW => ?_⟩) ?_; rotate_left
  · (go_simp; first | done | with_reducible rfl)
  try simp only [Act.put, List.setIfInBounds_toArray, List.set_cons_zero, List.set_cons_succ]
  -- 8: Op.store 59 (Operand.tmp 6) (Operand.tmp 21)
  refine blastE 8 (o := _) (by simp only [List.getElem?_toArray, List.getElem?_cons_succ, List.getElem?_cons_zero]; rfl) (by kernel_rfl) (by rfl) (by rfl) (fun K hK => ?_)
  go_simp
  skip
  refine hK.out _ _ ?_; clear hK K
  try simp only [Act.put, List.setIfInBounds_toArray, List.set_cons_zero, List.set_cons_succ]
  refine bdoneE (by kernel_rfl) ?_
  have hown' : OwnB w3 w1.heap.size (.slice A3 (fb ++ b).length c3) (fb ++ b) := by rw [List.length_append, HL.out.1, HL.out.2]; exact HP.out.1
  obtain ⟨g', hA3, hFr⟩ := FrV.of hown' fs
  have hK5 := (HP.out.2.2.set 0 (.slice A3 (fl + l) c3) (by simp)).set 1 (.int .i64 (fs : Int)) (by simp)
  have hg5 : Grew (fun k => k = w.heap.size) w3 ((w3.setCell ⟨w.heap.size, 0, none⟩ (.slice A3 (fl + l) c3)).setCell ⟨w.heap.size, 1, none⟩ (.int .i64 (fs : Int))) := ((Grew.refl _ w3).putP _).putP _
  have hb5 : Below w.heap.size w ((w3.setCell ⟨w.heap.size, 0, none⟩ (.slice A3 (fl + l) c3)).setCell ⟨w.heap.size, 1, none⟩ (.int .i64 (fs : Int))) := ((HK.out.2.trans (HP.out.2.1.mono HK.out.2.size)).setCell (by simp) _).setCell (by simp) _
  have hFr5 := (hFr.grew hg5 (fun k hk => by rw [hws]; omega)).from (w0 := w) (by rw [hws]; omega)
  clear hg5 hFr z0 z1 f0 f1 e0 e1 hS0
  generalize (w3.setCell ⟨w.heap.size, 0, none⟩ (.slice A3 (fl + l) c3)).setCell ⟨w.heap.size, 1, none⟩ (.int .i64 (fs : Int)) = w5 at *
  have v0 := hK5.c 0 rfl
  have v1 := hK5.c 1 rfl
  go_wp2_with fail
  exact bodyPost_ret (v := .agg #[.slice A3 (fl + l) c3, .int .i64 (fs : Int)]) (by simp [results, Try.results31, go_sem, v0, v1]) rfl ⟨g', c3, by rw [hA3], hFr5, hb5⟩
end Go.Proofs.Ythnbnhlfiehihaa

