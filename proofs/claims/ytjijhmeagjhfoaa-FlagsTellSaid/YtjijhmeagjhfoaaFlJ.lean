/- Flags: Join. -/
import Derived.Test.YtjijhmeagjhfoaaFlI
import Derived.Test.YtjijhmeagjhfoaaFlP
namespace Go.Proofs.Ytjijhmeagjhfoaa
open Go.RowKit Go.Maps
set_option maxRecDepth 20000

theorem Sl.keptN {W W' : World} {A : Option Addr} {xs : List Value} (h : Sl W W.heap.size A xs) {row : Option Nat} (hg : W.grownBy W' row) (hr : ∀ r, row = some r → ∃ o : Obj, W.heap[r]? = some o ∧ o.isCells = false) : Sl W' W'.heap.size A xs := by
  rcases h with h | ⟨b, o, e, h1, h2, hc⟩
  · exact .inl h
  · exact .inr ⟨b, o, e, Nat.lt_of_lt_of_le h1 hg.size, Nat.lt_of_lt_of_le h2 hg.size, fun j u hu => cell_kept (hc j u hu) hg hr⟩
theorem FSt.notCells {w : World} {m b : Nat} {R : List FE} (h : FSt w m b R) : ∃ o : Obj, w.heap[b]? = some o ∧ o.isCells = false := by
  obtain ⟨_, ⟨L, h2, _⟩, _⟩ := h
  obtain ⟨_, es, ⟨es', clock, hb, _⟩, _⟩ := h2
  exact ⟨_, hb, rfl⟩
theorem len_join (S : List FE) : ∀ R : List FE, Rise R → (joinR R S).length ≤ R.length + S.length := by
  induction S with
  | nil => intro R _; exact Nat.le_refl _
  | cons p S ih =>
    intro R hR
    have h1 := ih (putR R p.1 p.2) (rise_put hR _ _)
    have h2 := len_putR p.1 p.2 hR
    show (joinR (putR R p.1 p.2) S).length ≤ _
    rw [h2] at h1
    rw [List.length_cons]
    split at h1 <;> omega
theorem join_snoc (R S : List FE) (k : Nat) (p : FE) (hk : S[k]? = some p) : joinR R (S.take (k + 1)) = putR (joinR R (S.take k)) p.1 p.2 := by
  obtain ⟨hlt, rfl⟩ := List.getElem?_eq_some_iff.1 hk
  rw [List.take_succ_eq_append_getElem hlt, joinR, List.foldl_append]
  rfl
theorem look_fs1 {w : World} {b : Nat} {L : List FE} {R : List FE} (h : MapIs MF w b L) (hp : L.Perm R) (hR : Rise R) (x : ID) {o : Oper} {a : Act} {m y : Operand} (ho : o.op = .lookup 64 m y false) (hm : a.eval m = .map (some b)) (hx : a.eval y = .agg (bv x.l).toArray)
    {p l r : Int} {on : Bool} (hM : (look R x).getD zeroM = ⟨⟨p, l, r⟩, on⟩) :
    (execOp a.eval o).run Try.prog w = .ok (.value (.agg #[.int .i64 p, .int .i64 l, .int .i64 r, .bool on])) w := by
  have := ex_look1 h ho hm (c := x) hx trivial
  rw [look_perm hp hR] at this
  rw [this]
  show (Result.ok (Next.value (FM.v ((look R x).getD zeroM))) w : Result Next) = _
  rw [hM]
  rfl
theorem get_cell {l : List ID} {w : World} {A : Option Addr} (h : Sl w w.heap.size A (EI.dv l)) {k : Nat} {x : ID} (hx : l[k]? = some x) : ∃ g o, A = some ⟨g, o, none⟩ ∧ g < w.heap.size ∧ ∀ (j : Nat) (u : Value), (bv x.l)[j]? = some u → w.cell? ⟨g, o + k * 32 + j, none⟩ = some u := by
  obtain ⟨g, o, h1, h2, _, h4⟩ := EI.cell_at h hx
  exact ⟨g, o, h1, h2, fun j u hu => by have := h4 j u hu; rw [← Nat.add_assoc] at this; exact this⟩
theorem Join_nil (w : World) (m : Nat) : Calls Try.prog 14 #[.pointer (some ⟨m, 0, none⟩), .pointer none] w fun e w' => e = .returned (.tuple #[]) ∧ w = w' := by
  go_enter Try.func14, Try.ntmps14
  go_wp2
  exact bodyPost_ret (v := .tuple #[]) (results_none rfl _ _ _) rfl ⟨rfl, rfl⟩
def JoinPost (w : World) (m b : Nat) (R : List FE) (e : Ending) (w' : World) : Prop := e = .returned (.tuple #[]) ∧ FSt w' m b R ∧ w.grownBy w' (some b)
set_option maxHeartbeats 3200000 in
theorem Join_any (w : World) (m b m2 b2 : Nat) (R R2 : List FE) (h : FSt w m b R) (h2 : FSt w m2 b2 R2) (hne : b ≠ b2) (hn : R.length + R2.length < 1000000) :
    Calls Try.prog 14 #[.pointer (some ⟨m, 0, none⟩), .pointer (some ⟨m2, 0, none⟩)] w (JoinPost w m b (joinR R R2)) := by
  have hI := Lib.hid (Ids_any w m2 b2 R2 h2 (by omega))
  have hm2b : m2 ≠ b := h2.ne h
  have hlenm : (R2.map (·.1)).length = R2.length := List.length_map ..
  have HN := Lib.hid (And.intro hne (And.intro hm2b (And.intro hn hlenm)))
  have HF := Lib.hid (And.intro h h2)
  clear h h2 hne hm2b hn
  rw [hlenm] at hlenm
  clear hlenm
  go_enter Try.func14, Try.ntmps14
  go_wp2_with fail
  refine hI.out.mono ?_
  rintro e w1 ⟨A, c, rfl, hsl, hc1, hc2, hb⟩
  have H1 := Lib.hid (And.intro hsl (And.intro hc1 (And.intro hc2 hb)))
  clear hsl hc1 hc2 hb
  rw [HN.out.2.2.2] at *
  go_wp2
  go_loopw [12] (fun i wr => ∃ k : Nat, i = .int .i64 (k : Int) ∧ k ≤ R2.length ∧ FSt wr m b (joinR R (R2.take k)) ∧ FSt wr m2 b2 R2 ∧ Sl wr wr.heap.size A (EI.dv (R2.map (·.1))) ∧ w.grownBy wr (some b)) (fun i _ => R2.length - (intOf i).toNat)
  case atStart => exact ⟨0, rfl, Nat.zero_le _, HF.out.1.below H1.out.2.2.2, HF.out.2.below H1.out.2.2.2, H1.out.1, grown_of_below H1.out.2.2.2 _⟩
  case round =>
    obtain ⟨k, rfl, hk, f1, f2, hsl, hg⟩ := hrel
    by_cases hlt : k < R2.length
    · obtain ⟨⟨x, ⟨⟨p, l, r⟩, on⟩⟩, hx⟩ : ∃ e, R2[k]? = some e := ⟨_, List.getElem?_eq_getElem hlt⟩
      obtain ⟨g, of, rfl, hgl, hcell⟩ := get_cell hsl (k := k) (x := x) (by rw [List.getElem?_map, hx]; rfl)
      have HX := Lib.hid (And.intro hx (And.intro f1 (And.intro f2 (And.intro hsl hg))))
      have H32 := Lib.hid (show (bv x.l).length = 32 by rw [bv_len, x.h])
      have HC := Lib.hid hcell
      have hc0 := f2.1.c 0 (v := .map (some b2)) rfl
      clear hx f1 f2 hsl hg hcell
      go_wp2_with (first
        | (refine opVal rfl (ex_ld32o rfl rfl HC.out H32.out) ?_; simp only [Act.put, List.setIfInBounds_toArray, List.set_cons_zero, List.set_cons_succ])
        | (refine opValV rfl (ex_al32 rfl) ?_; intro w3 hw3; have hq3 := Lib.hid (eq_s2 hw3); clear hw3; simp only [Act.put, List.setIfInBounds_toArray, List.set_cons_zero, List.set_cons_succ])
        | (refine opSkipV rfl (ex_st32 rfl rfl rfl hq3.out.2.1 (by rfl) H32.out (bv_one _)) ?_; intro w4 hw4; have hq4 := Lib.hid (key_s4 H32.out hq3.out hw4); clear hw4; simp only [Act.put]))
      have f1' := HX.out.2.1.below hq4.out.2
      have f2' := HX.out.2.2.1.below hq4.out.2
      have hsl' := (HX.out.2.2.2.1.below' hq4.out.2).more hq4.out.2.size
      have hg' := HX.out.2.2.2.2.andThen (grown_of_below hq4.out.2 none) (fun j hj => by cases hj)
      have e4 := f2'.1.e 0 (v := .map (some b2)) rfl
      obtain ⟨a2, ⟨L2, l2, p2⟩, r2, al2⟩ := f2'
      have HM := Lib.hid (show (look R2 x).getD zeroM = ⟨⟨p, l, r⟩, on⟩ by rw [find_mem r2.apart (List.mem_of_getElem? HX.out.1)]; rfl)
      have HR2 := Lib.hid (And.intro l2 (And.intro p2 (And.intro r2 (And.intro al2 a2))))
      have HY := Lib.hid (And.intro f1' (And.intro hsl' hg'))
      have HQ4 := Lib.hid hq4.out.1
      clear f1' hsl' hg' l2 p2 r2 al2 a2 hq3 hq4 hc0
      generalize wr.heap.size = n5 at *
      have hS0 : KB w4.heap w4.drew := KB.refl _
      refine bstartH (w4.heap) (by kernel_rfl) ?_
      refine btake 0 (oi := _) (v := ?_) (by simp only [List.getElem?_toArray, List.getElem?_cons_zero]; rfl) (by kernel_rfl) (by exact fun _ _ _ h => h) (by first | assumption | exact KB.refl _) (.inl ⟨by rfl, fun W hW => ?_⟩) ?_; rotate_left
      · (go_simp; first | done | with_reducible rfl)
      try simp only [Act.put, List.setIfInBounds_toArray, List.set_cons_zero, List.set_cons_succ]
      refine btake 1 (oi := _) (v := ?_) (by simp only [List.getElem?_toArray, List.getElem?_cons_succ, List.getElem?_cons_zero]; rfl) (by kernel_rfl) (by exact fun _ _ _ h => h) (by first | assumption | exact KB.refl _) (.inl ⟨by rfl, fun W hW => ?_⟩) ?_; rotate_left
      · (go_simp; first | done | with_reducible rfl)
      try simp only [Act.put, List.setIfInBounds_toArray, List.set_cons_zero, List.set_cons_succ]
      refine btake 2 (oi := _) (v := ?_) (by simp only [List.getElem?_toArray, List.getElem?_cons_succ, List.getElem?_cons_zero]; rfl) (by kernel_rfl) (by exact fun _ _ _ h => h) (by first | assumption | exact KB.refl _) (.inl ⟨by rfl, fun W hW => ?_⟩) ?_; rotate_left
      · (go_simp; first | done | with_reducible rfl)
      try simp only [Act.put, List.setIfInBounds_toArray, List.set_cons_zero, List.set_cons_succ]
      refine btake 3 (oi := _) (v := ?_) (by simp only [List.getElem?_toArray, List.getElem?_cons_succ, List.getElem?_cons_zero]; rfl) (by kernel_rfl) (by exact fun _ _ _ h => h) (by first | assumption | exact KB.refl _) (.inl ⟨by rfl, fun W hW => ?_⟩) ?_; rotate_left
      · (go_simp; first | done | with_reducible rfl)
      try simp only [Act.put, List.setIfInBounds_toArray, List.set_cons_zero, List.set_cons_succ]
      refine btake 4 (oi := _) (v := ?_) (by simp only [List.getElem?_toArray, List.getElem?_cons_succ, List.getElem?_cons_zero]; rfl) (by kernel_rfl) (by exact fun _ _ _ h => h) (by first | assumption | exact KB.refl _) (.inl ⟨by rfl, fun W hW => ?_⟩) ?_; rotate_left
      · refine Eq.trans (ex_ld32 (us := bv x.l) (by rfl) (by rfl) (HQ4.out.kb hW) H32.out) ?_
        with_reducible rfl
      try simp only [Act.put, List.setIfInBounds_toArray, List.set_cons_zero, List.set_cons_succ]
      refine btake 5 (oi := _) (v := ?_) (by simp only [List.getElem?_toArray, List.getElem?_cons_succ, List.getElem?_cons_zero]; rfl) (by kernel_rfl) (by exact fun _ _ _ h => h) (by first | assumption | exact KB.refl _) (.inl ⟨by rfl, fun W hW => ?_⟩) ?_; rotate_left
      · refine Eq.trans (look_fs1 (HR2.out.1.kb hW) HR2.out.2.1 HR2.out.2.2.1 x (by rfl) (by rfl) (by rfl) HM.out) ?_
        with_reducible rfl
      try simp only [Act.put, List.setIfInBounds_toArray, List.set_cons_zero, List.set_cons_succ]
      -- 6: Op.alloc 68
      refine bopH 6 (o := _) (by simp only [List.getElem?_toArray, List.getElem?_cons_succ, List.getElem?_cons_zero]; rfl) (by kernel_rfl) (by first | assumption | exact KB.refl _) (by rfl) (fun K hK => ?_)
      go_simp
      have hkb : KB w4.heap (w4.alloc (.cells #[.int .i64 0, .int .i64 0, .int .i64 0, .bool false] 68)) := KB.alloc w4 _
      refine hK.out _ _ hkb ?_; clear hK K
      try simp only [Act.put, List.setIfInBounds_toArray, List.set_cons_zero, List.set_cons_succ]
      -- 7: Op.store 68 (Operand.tmp 6) (Operand.tmp 21)
      refine bopH 7 (o := _) (by simp only [List.getElem?_toArray, List.getElem?_cons_succ, List.getElem?_cons_zero]; rfl) (by kernel_rfl) (by first | assumption | exact KB.refl _) (by rfl) (fun K hK => ?_)
      go_simp
      have hkb : KB w4.heap (w4.alloc (.cells #[.int .i64 p, .int .i64 l, .int .i64 r, .bool on] 68)) := KB.alloc w4 _
      refine hK.out _ _ hkb ?_; clear hK K
      try simp only [Act.put, List.setIfInBounds_toArray, List.set_cons_zero, List.set_cons_succ]
      refine bdone (by kernel_rfl) ?_
      have b5 : Below w4.heap.size w4 (w4.alloc (.cells #[.int .i64 p, .int .i64 l, .int .i64 r, .bool on] 68)).drew := ((Below.refl _ _).alloc (Nat.le_refl _) _).drew
      have q1 := (At.new w4 68 #[.int .i64 p, .int .i64 l, .int .i64 r, .bool on]).drew
      have q2 := HQ4.out.below b5
      have q3 := HR2.out.1.below b5
      have q4 := HR2.out.2.2.2.2.below b5
      have f5 := HY.out.1.below b5
      have hsl5 := (HY.out.2.1.below' b5).more b5.size
      have hg5 := HY.out.2.2.andThen (grown_of_below b5 none) (fun j hj => by cases hj)
      have e5 := HN.out.2.2.1
      have hlenk := len_join (R2.take k) R HF.out.1.2.2.1
      have hpu : (joinR R (R2.take k)).length < 1000000 := by
        have := List.length_take_le k R2
        omega
      have c0 := q1.c 0 rfl
      have c1 := q1.c 1 rfl
      have c2 := q1.c 2 rfl
      have c3 := q1.c 3 rfl
      generalize (w4.alloc (.cells #[.int .i64 p, .int .i64 l, .int .i64 r, .bool on] 68)).drew = w5 at *
      generalize w4.heap.size = n6 at *
      have HP := Lib.hid (Put_any w5 m b _ f5 x ⟨p, l, r⟩ on hpu)
      have HZ := Lib.hid (And.intro q2 (And.intro (show FSt w5 m2 b2 R2 from ⟨q4, ⟨L2, q3, HR2.out.2.1⟩, HR2.out.2.2.1, HR2.out.2.2.2.1⟩) (And.intro f5 (And.intro hsl5 hg5))))
      have HK := Lib.hid hlt
      have hkb : k < 1000000 := by have := HN.out.2.2.1; omega
      clear b5 q1 q2 q3 q4 f5 hsl5 hg5 e5 hlenk hpu hS0 e4 HQ4 HY
      go_wp2_with (refine opVal rfl (ex_ld32 rfl rfl HZ.out.1 H32.out) ?_; simp only [Act.put, List.setIfInBounds_toArray, List.set_cons_zero, List.set_cons_succ])
      refine HP.out.mono ?_
      rintro e w6 ⟨rfl, hf6, hg6⟩
      have HF6 := Lib.hid (And.intro hf6 hg6)
      clear hf6 hg6
      go_wp2
      go_roundw
      case rel =>
        have hj := join_snoc R R2 k _ HX.out.1
        have hmr : (⟨p, l, r⟩ : S3).right = true := HR2.out.2.2.2.1 (x, ⟨⟨p, l, r⟩, on⟩) (List.mem_of_getElem? HX.out.1)
        refine ⟨k + 1, by go_num, HK.out, ?_, HZ.out.2.1.kept HF6.out.2 (fun e => HN.out.1 e.symm) HN.out.2.1, HZ.out.2.2.2.1.keptN HF6.out.2 (fun r e => by cases e; exact HZ.out.2.2.1.notCells), HZ.out.2.2.2.2.andThen HF6.out.2 (fun j hj => .inr hj)⟩
        rw [hj]
        have h6 := HF6.out.1
        unfold putIf at h6
        rw [if_pos hmr] at h6
        exact h6
      case measure => have := HK.out; simp [intOf]; omega
    · go_wp2
      go_end0
      have hk2 : k = R2.length := by omega
      subst hk2
      rw [List.take_length] at f1
      exact ⟨rfl, f1, hg⟩
end Go.Proofs.Ytjijhmeagjhfoaa

