/- Flags: Get. -/
import Derived.Test.YtjijhmeagjhfoaaFl
namespace Go.Proofs.Ytjijhmeagjhfoaa
open Go.RowKit Go.Maps
set_option maxRecDepth 20000

theorem look_fs {w : World} {b : Nat} {L : List FE} {R : List FE} (h : MapIs MF w b L) (hp : L.Perm R) (hR : Rise R) (x : ID) {o : Oper} {a : Act} {m y : Operand} (ho : o.op = .lookup 64 m y true) (hm : a.eval m = .map (some b)) (hx : a.eval y = .agg (bv x.l).toArray)
    {p l r : Int} {on is : Bool} (hM : (look R x).getD zeroM = ⟨⟨p, l, r⟩, on⟩) (hI : (look R x).isSome = is) :
    (execOp a.eval o).run Try.prog w = .ok (.value (.tuple #[.agg #[.int .i64 p, .int .i64 l, .int .i64 r, .bool on], .bool is])) w := by
  have := ex_look h ho hm (c := x) hx trivial
  rw [look_perm hp hR] at this
  rw [this, hI]
  show (Result.ok (Next.value (.tuple #[FM.v ((look R x).getD zeroM), .bool is])) w : Result Next) = _
  rw [hM]
  rfl
theorem At.kb {w W : World} {g : Nat} {vs : List Value} (h : At w g vs) (hk : KB w.heap W) : At W g vs := by
  have hb := hk.2 g h.1
  exact ⟨Nat.lt_of_lt_of_le h.1 hk.1, fun i v hv => ⟨(World.cell?_of_block (w := w) hb).trans (h.2 i v hv).1, (World.frozen?_of_block (w := w) hb).trans (h.2 i v hv).2⟩⟩
set_option maxHeartbeats 1600000 in
theorem Get_any (w : World) (m b : Nat) (R : List FE) (h : FSt w m b R) (x : ID) :
    Calls Try.prog 12 #[.pointer (some ⟨m, 0, none⟩), x.v] w fun e w' => e = .returned (.tuple #[.bool ((look R x).getD zeroM).on, ((look R x).getD zeroM).s.v, .bool (look R x).isSome]) ∧ Below w.heap.size w w' := by
  obtain ⟨h1, ⟨L, h2, h3⟩, h4, _⟩ := h
  obtain ⟨⟨⟨p, l, r⟩, on⟩, hM⟩ : ∃ M, (look R x).getD zeroM = M := ⟨_, rfl⟩
  obtain ⟨is, hI⟩ : ∃ is, (look R x).isSome = is := ⟨_, rfl⟩
  have HM := Lib.hid (And.intro hM hI)
  rw [hM, hI]
  clear hM hI
  unfold ID.v S3.v
  go_enter Try.func12, Try.ntmps12
  go_wp2_with (refine opVal rfl (ex_box32 rfl rfl) ?_)
  have k0 := At.new w 25 (bv x.l).toArray
  have k1 := k0.alloc (.cells #[.int .i64 0, .int .i64 0, .int .i64 0] 30)
  have k2 := At.new (w.alloc (.cells (bv x.l).toArray 25)) 30 #[.int .i64 0, .int .i64 0, .int .i64 0]
  have hb2 : Below w.heap.size w ((w.alloc (.cells (bv x.l).toArray 25)).alloc (.cells #[.int .i64 0, .int .i64 0, .int .i64 0] 30)) := ((Below.refl _ w).alloc (Nat.le_refl _) _).alloc (by simp) _
  have k3 := h1.below hb2
  have k4 := h2.below hb2
  rw [World.size_alloc] at k2
  have hmx : m < w.heap.size := h1.1
  have hs2 : ((w.alloc (.cells (bv x.l).toArray 25)).alloc (.cells #[.int .i64 0, .int .i64 0, .int .i64 0] 30)).heap.size = w.heap.size + 2 := by simp
  generalize (w.alloc (.cells (bv x.l).toArray 25)).alloc (.cells #[.int .i64 0, .int .i64 0, .int .i64 0] 30) = w2 at *
  have e3 := k3.e 0 (v := .map (some b)) rfl
  clear k0 h1 h2
  have HX := Lib.hid (And.intro k1 k4)
  clear k1 k4
  have HL := Lib.hid x.h
  have hS0 : KB w2.heap w2.drew := KB.refl _
  refine bstartH (w2.heap) (by kernel_rfl) ?_
  refine btake 0 (oi := _) (v := ?_) (by simp only [List.getElem?_toArray, List.getElem?_cons_zero]; rfl) (by kernel_rfl) (by exact fun _ _ _ h => h) (by first | assumption | exact KB.refl _) (.inl ⟨by rfl, fun W hW => ?_⟩) ?_; rotate_left
  · (go_simp; first | done | with_reducible rfl)
  try simp only [Act.put, List.setIfInBounds_toArray, List.set_cons_zero, List.set_cons_succ]
  refine btake 1 (oi := _) (v := ?_) (by simp only [List.getElem?_toArray, List.getElem?_cons_succ, List.getElem?_cons_zero]; rfl) (by kernel_rfl) (by exact fun _ _ _ h => h) (by first | assumption | exact KB.refl _) (.inl ⟨by rfl, fun W hW => ?_⟩) ?_; rotate_left
  · (go_simp; first | done | with_reducible rfl)
  try simp only [Act.put, List.setIfInBounds_toArray, List.set_cons_zero, List.set_cons_succ]
  refine btake 2 (oi := _) (v := ?_) (by simp only [List.getElem?_toArray, List.getElem?_cons_succ, List.getElem?_cons_zero]; rfl) (by kernel_rfl) (by exact fun _ _ _ h => h) (by first | assumption | exact KB.refl _) (.inl ⟨by rfl, fun W hW => ?_⟩) ?_; rotate_left
  · (go_simp; first | done | with_reducible rfl)
  try simp only [Act.put, List.setIfInBounds_toArray, List.set_cons_zero, List.set_cons_succ]
  refine btake 3 (oi := _) (v := ?_) (by simp only [List.getElem?_toArray, List.getElem?_cons_succ, List.getElem?_cons_zero]; rfl) (by kernel_rfl) (by exact fun _ _ _ h => h) (by first | assumption | exact KB.refl _) (.inl ⟨by rfl, fun W hW => ?_⟩) ?_; rotate_left
  · (go_simp; first | done | with_reducible rfl)
  try simp only [Act.put, List.setIfInBounds_toArray, List.set_cons_zero, List.set_cons_succ]
  refine btake 4 (oi := _) (v := ?_) (by simp only [List.getElem?_toArray, List.getElem?_cons_succ, List.getElem?_cons_zero]; rfl) (by kernel_rfl) (by exact fun _ _ _ h => h) (by first | assumption | exact KB.refl _) (.inl ⟨by rfl, fun W hW => ?_⟩) ?_; rotate_left
  · refine Eq.trans (ex_ld32 (us := bv x.l) (by rfl) (by rfl) (HX.out.1.kb hW) (by rw [bv_len]; exact HL.out)) ?_
    with_reducible rfl
  try simp only [Act.put, List.setIfInBounds_toArray, List.set_cons_zero, List.set_cons_succ]
  refine btake 5 (oi := _) (v := ?_) (by simp only [List.getElem?_toArray, List.getElem?_cons_succ, List.getElem?_cons_zero]; rfl) (by kernel_rfl) (by exact fun _ _ _ h => h) (by first | assumption | exact KB.refl _) (.inl ⟨by rfl, fun W hW => ?_⟩) ?_; rotate_left
  · refine Eq.trans (look_fs (HX.out.2.kb hW) h3 h4 x (by rfl) (by rfl) (by rfl) HM.out.1 HM.out.2) ?_
    with_reducible rfl
  try simp only [Act.put, List.setIfInBounds_toArray, List.set_cons_zero, List.set_cons_succ]
  refine btake 6 (oi := _) (v := ?_) (by simp only [List.getElem?_toArray, List.getElem?_cons_succ, List.getElem?_cons_zero]; rfl) (by kernel_rfl) (by exact fun _ _ _ h => h) (by first | assumption | exact KB.refl _) (.inl ⟨by rfl, fun W hW => ?_⟩) ?_; rotate_left
  · (go_simp; first | done | with_reducible rfl)
  try simp only [Act.put, List.setIfInBounds_toArray, List.set_cons_zero, List.set_cons_succ]
  refine btake 7 (oi := _) (v := ?_) (by simp only [List.getElem?_toArray, List.getElem?_cons_succ, List.getElem?_cons_zero]; rfl) (by kernel_rfl) (by exact fun _ _ _ h => h) (by first | assumption | exact KB.refl _) (.inl ⟨by rfl, fun W hW => ?_⟩) ?_; rotate_left
  · (go_simp; first | done | with_reducible rfl)
  try simp only [Act.put, List.setIfInBounds_toArray, List.set_cons_zero, List.set_cons_succ]
  refine btake 8 (oi := _) (v := ?_) (by simp only [List.getElem?_toArray, List.getElem?_cons_succ, List.getElem?_cons_zero]; rfl) (by kernel_rfl) (by exact fun _ _ _ h => h) (by first | assumption | exact KB.refl _) (.inl ⟨by rfl, fun W hW => ?_⟩) ?_; rotate_left
  · (go_simp; first | done | with_reducible rfl)
  try simp only [Act.put, List.setIfInBounds_toArray, List.set_cons_zero, List.set_cons_succ]
  -- 9: Op.alloc 68
  refine bopH 9 (o := _) (by simp only [List.getElem?_toArray, List.getElem?_cons_succ, List.getElem?_cons_zero]; rfl) (by kernel_rfl) (by first | assumption | exact KB.refl _) (by rfl) (fun K hK => ?_)
  go_simp
  have hkb : KB w2.heap (w2.alloc (.cells #[.int .i64 0, .int .i64 0, .int .i64 0, .bool false] 68)) := KB.alloc w2 _
  refine hK.out _ _ hkb ?_; clear hK K
  try simp only [Act.put, List.setIfInBounds_toArray, List.set_cons_zero, List.set_cons_succ]
  -- 10: Op.store 68 (Operand.tmp 7) (Operand.tmp 16)
  refine bopH 10 (o := _) (by simp only [List.getElem?_toArray, List.getElem?_cons_succ, List.getElem?_cons_zero]; rfl) (by kernel_rfl) (by first | assumption | exact KB.refl _) (by rfl) (fun K hK => ?_)
  go_simp
  have hkb : KB w2.heap (w2.alloc (.cells #[.int .i64 p, .int .i64 l, .int .i64 r, .bool on] 68)) := KB.alloc w2 _
  refine hK.out _ _ hkb ?_; clear hK K
  try simp only [Act.put, List.setIfInBounds_toArray, List.set_cons_zero, List.set_cons_succ]
  refine btake 11 (oi := _) (v := ?_) (by simp only [List.getElem?_toArray, List.getElem?_cons_succ, List.getElem?_cons_zero]; rfl) (by kernel_rfl) (by exact fun _ _ _ h => h) (by first | assumption | exact KB.refl _) (.inl ⟨by rfl, fun W hW => ?_⟩) ?_; rotate_left
  · (go_simp; first | done | with_reducible rfl)
  try simp only [Act.put, List.setIfInBounds_toArray, List.set_cons_zero, List.set_cons_succ]
  refine bdone (by kernel_rfl) ?_
  have q1 := (At.new w2 68 #[.int .i64 p, .int .i64 l, .int .i64 r, .bool on]).drew
  have q2 := (k2.alloc (.cells #[.int .i64 p, .int .i64 l, .int .i64 r, .bool on] 68)).drew
  have hb3 := (balloc hb2 (.cells #[.int .i64 p, .int .i64 l, .int .i64 r, .bool on] 68)).drew
  clear HX e3 k2 k3 hb2 hS0
  rw [hs2] at q1
  generalize (w2.alloc (.cells #[.int .i64 p, .int .i64 l, .int .i64 r, .bool on] 68)).drew = w3 at *
  have q3 : At w3 (w.heap.size + 2) [.int .i64 p, .int .i64 l, .int .i64 r, .bool on] := q1
  have q4 : At w3 (w.heap.size + 1) [.int .i64 0, .int .i64 0, .int .i64 0] := q2
  have q5 := q4.putL [.int .i64 p, .int .i64 l, .int .i64 r] rfl
  have q6 := q3.putL_other [.int .i64 p, .int .i64 l, .int .i64 r] 0 (g' := w.heap.size + 1) _ (by omega)
  have hb4 := below_putL [.int .i64 p, .int .i64 l, .int .i64 r] 0 hb3 (g := w.heap.size + 1) (by omega)
  have z0 := q4.c 0 rfl
  have z1 := q4.c 1 rfl
  have z2 := q4.c 2 rfl
  have f0 := q4.f 0 rfl
  have f1 := q4.f 1 rfl
  have f2 := q4.f 2 rfl
  have e0 := AtS.e (g := w.heap.size + 2) (vs := [.int .i64 p, .int .i64 l, .int .i64 r, .bool on]) 0 rfl
  have e1 := AtS.e (g := w.heap.size + 2) (vs := [.int .i64 p, .int .i64 l, .int .i64 r, .bool on]) 1 rfl
  have e2 := AtS.e (g := w.heap.size + 2) (vs := [.int .i64 p, .int .i64 l, .int .i64 r, .bool on]) 2 rfl
  have e4 := AtS.e (g := w.heap.size + 2) (vs := [.int .i64 p, .int .i64 l, .int .i64 r, .bool on]) 3 rfl
  have hkb : AtS (w.heap.size + 2) [.int .i64 p, .int .i64 l, .int .i64 r, .bool on] w3.drew := q3.drew
  clear q1 q2
  go_wp2_with fail
  refine bstartS (AtS (w.heap.size + 2) [.int .i64 p, .int .i64 l, .int .i64 r, .bool on]) (by kernel_rfl) ?_
  refine btakeS 0 (oi := _) (v := ?_) (by simp only [List.getElem?_toArray, List.getElem?_cons_zero]; rfl) (by kernel_rfl) (by exact fun _ _ _ h => h) (by first | assumption | exact KB.refl _) (.inl ⟨by rfl, fun W hW => ?_⟩) ?_; rotate_left
  · (go_simp; first | done | with_reducible rfl)
  try simp only [Act.put, List.setIfInBounds_toArray, List.set_cons_zero, List.set_cons_succ]
  refine btakeS 1 (oi := _) (v := ?_) (by simp only [List.getElem?_toArray, List.getElem?_cons_succ, List.getElem?_cons_zero]; rfl) (by kernel_rfl) (by exact fun _ _ _ h => h) (by first | assumption | exact KB.refl _) (.inl ⟨by rfl, fun W hW => ?_⟩) ?_; rotate_left
  · (go_simp; first | done | with_reducible rfl)
  try simp only [Act.put, List.setIfInBounds_toArray, List.set_cons_zero, List.set_cons_succ]
  refine btakeS 2 (oi := _) (v := ?_) (by simp only [List.getElem?_toArray, List.getElem?_cons_succ, List.getElem?_cons_zero]; rfl) (by kernel_rfl) (by exact fun _ _ _ h => h) (by first | assumption | exact KB.refl _) (.inl ⟨by rfl, fun W hW => ?_⟩) ?_; rotate_left
  · (go_simp; first | done | with_reducible rfl)
  try simp only [Act.put, List.setIfInBounds_toArray, List.set_cons_zero, List.set_cons_succ]
  refine btakeS 3 (oi := _) (v := ?_) (by simp only [List.getElem?_toArray, List.getElem?_cons_succ, List.getElem?_cons_zero]; rfl) (by kernel_rfl) (by exact fun _ _ _ h => h) (by first | assumption | exact KB.refl _) (.inl ⟨by rfl, fun W hW => ?_⟩) ?_; rotate_left
  · (go_simp; first | done | with_reducible rfl)
  try simp only [Act.put, List.setIfInBounds_toArray, List.set_cons_zero, List.set_cons_succ]
  refine btakeS 4 (oi := _) (v := ?_) (by simp only [List.getElem?_toArray, List.getElem?_cons_succ, List.getElem?_cons_zero]; rfl) (by kernel_rfl) (by exact fun _ _ _ h => h) (by first | assumption | exact KB.refl _) (.inl ⟨by rfl, fun W hW => ?_⟩) ?_; rotate_left
  · (go_simp; first | done | with_reducible rfl)
  try simp only [Act.put, List.setIfInBounds_toArray, List.set_cons_zero, List.set_cons_succ]
  refine btakeS 5 (oi := _) (v := ?_) (by simp only [List.getElem?_toArray, List.getElem?_cons_succ, List.getElem?_cons_zero]; rfl) (by kernel_rfl) (by exact fun _ _ _ h => h) (by first | assumption | exact KB.refl _) (.inl ⟨by rfl, fun W hW => ?_⟩) ?_; rotate_left
  · (go_simp; first | done | with_reducible rfl)
  try simp only [Act.put, List.setIfInBounds_toArray, List.set_cons_zero, List.set_cons_succ]
  -- 6: Op.store 30 (Operand.tmp 5) (Operand.tmp 21)
  refine bopS 6 (o := _) (by simp only [List.getElem?_toArray, List.getElem?_cons_succ, List.getElem?_cons_zero]; rfl) (by kernel_rfl) (by rfl) (fun K hK => ?_)
  go_simp
  replace hkb : AtS (w.heap.size + 2) [.int .i64 p, .int .i64 l, .int .i64 r, .bool on] (putL w3 (w.heap.size + 1) 0 [.int .i64 p, .int .i64 l, .int .i64 r]) := q6
  refine hK.out _ _ hkb ?_; clear hK K
  try simp only [Act.put, List.setIfInBounds_toArray, List.set_cons_zero, List.set_cons_succ]
  refine btakeS 7 (oi := _) (v := ?_) (by simp only [List.getElem?_toArray, List.getElem?_cons_succ, List.getElem?_cons_zero]; rfl) (by kernel_rfl) (by exact fun _ _ _ h => h) (by first | assumption | exact KB.refl _) (.inl ⟨by rfl, fun W hW => ?_⟩) ?_; rotate_left
  · (go_simp; first | done | with_reducible rfl)
  try simp only [Act.put, List.setIfInBounds_toArray, List.set_cons_zero, List.set_cons_succ]
  refine bdoneS (by kernel_rfl) ?_
  have q7 := q5.drew
  replace hb4 := hb4.drew
  have v0 := q7.c 0 rfl
  have v1 := q7.c 1 rfl
  have v2 := q7.c 2 rfl
  clear q3 q4 q5 q6 z0 z1 z2 f0 f1 f2 e0 e1 e2 e4 hkb hb3
  simp only [putL] at v0 v1 v2
  go_wp2_with fail
  exact bodyPost_ret (v := .tuple #[.bool on, .agg #[.int .i64 p, .int .i64 l, .int .i64 r], .bool is]) (by simp [results, Try.results12, go_sem, v0, v1, v2]) rfl ⟨rfl, hb4⟩
end Go.Proofs.Ytjijhmeagjhfoaa

