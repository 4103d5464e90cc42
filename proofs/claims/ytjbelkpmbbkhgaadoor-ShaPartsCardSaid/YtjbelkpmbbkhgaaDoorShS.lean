/- Digests: spread. -/
import Derived.Test.YtjbelkpmbbkhgaaDoorShR
import Derived.Test.YtjbelkpmbbkhgaaDoorRegS
namespace Go.Proofs.YtjbelkpmbbkhgaaDoor
open Go.RowKit Go.Proofs.YtjbelkpmbbkhgaaDoor.Sh

theorem u8AtB {w : World} {B : Nat} {A : Option Addr} {l : List UInt8} (h : Sl w B A (bv l)) {k : Nat} (hk : k < l.length) :
    ∃ b o, A = some ⟨b, o, none⟩ ∧ b < B ∧ b < w.heap.size ∧ w.cell? ⟨b, o + k, none⟩ = some (.int .u8 ((bt l k : Nat) : Int)) := by
  obtain ⟨b, o, e, h1, h2, hc⟩ := h.at_ (k := k) (by simpa using hk)
  exact ⟨b, o, e, h1, h2, hc k _ (bv_get l k hk)⟩
def pad64 (l : List Nat) : List Nat := l ++ List.replicate (64 - l.length) 0
theorem spr_len (b : List UInt8) : ∀ k, (spr b k).length = k
  | 0 => rfl
  | k + 1 => by rw [spr, List.length_append, spr_len b k]; rfl
theorem bt_lt (b : List UInt8) (i : Nat) : bt b i < 256 := UInt8.toNat_lt _
theorem At.beyond {w : World} {g : Nat} {vs : List Value} (h : At w g vs) (o : Nat) (v : Value) (ho : vs.length ≤ o) : At (w.setCell ⟨g, o, none⟩ v) g vs := by
  have hf : ∀ x, (w.setCell ⟨g, o, none⟩ v).frozen? x = w.frozen? x := fun x => World.frozen?_setCells g [v] o w x
  refine ⟨by simpa using h.1, fun i u hu => ?_⟩
  have hi : i < vs.length := (List.getElem?_eq_some_iff.1 hu).1
  refine ⟨?_, by rw [hf]; exact h.f i hu⟩
  rw [World.cell?_setCell_other _ _ _ _ (by intro e; injection e with _ e2; omega)]
  exact h.c i hu
theorem pad_len (l : List Nat) (h : l.length ≤ 64) : (pad64 l).length = 64 := by unfold pad64; simp; omega
theorem pad_set (l : List Nat) (x : Nat) (h : l.length < 64) : (u32s (pad64 l)).set l.length (.int .u32 (x : Int)) = u32s (pad64 (l ++ [x])) := by
  unfold pad64 u32s
  have e : List.replicate (64 - l.length) 0 = 0 :: List.replicate (64 - (l ++ [x]).length) 0 := by
    rw [show 64 - l.length = (64 - (l ++ [x]).length) + 1 by simp; omega, List.replicate_succ]
  rw [e, List.map_append, List.set_append, if_neg (by simp), List.length_map, Nat.sub_self, List.map_cons, List.set_cons_zero]
  simp
theorem pad_zero (l : List Nat) (k : Nat) (h : l.length ≤ k) (hk : k < 64) : (u32s (pad64 l))[k]? = some (.int .u32 0) := by
  unfold pad64 u32s
  rw [List.map_append, List.getElem?_append_right (by rw [List.length_map]; exact h), List.length_map, List.getElem?_map, List.getElem?_replicate, if_pos (by omega)]
  rfl
theorem At.pre {w : World} {g : Nat} {vs us : List Value} (h : At w g (vs ++ us)) : At w g vs :=
  ⟨h.1, fun i v hv => h.2 i v (by rw [List.getElem?_append_left (List.getElem?_eq_some_iff.1 hv).1]; exact hv)⟩
theorem at_pad {w : World} {g : Nat} {l : List Nat} (h : At w g (u32s (pad64 l))) : At w g (u32s l) := by
  have e : u32s (pad64 l) = u32s l ++ u32s (List.replicate (64 - l.length) 0) := by simp [pad64, u32s]
  rw [e] at h
  exact h.pre
theorem word_ops {z0 z1 z2 z3 : Nat} (l0 : z0 < 256) (l1 : z1 < 256) (l2 : z2 < 256) (l3 : z3 < 256) : ∃ a0 a1 a2 t1 t2 X : Nat,
    IntKind.u32.wrap ((z0 : Int) * 16777216) = (a0 : Int) ∧ IntKind.u32.wrap ((z1 : Int) * 65536) = (a1 : Int) ∧ IntKind.u32.wrap ((z2 : Int) * 256) = (a2 : Int) ∧
    IntKind.u32.wrap (z0 : Int) = (z0 : Int) ∧ IntKind.u32.wrap (z1 : Int) = (z1 : Int) ∧ IntKind.u32.wrap (z2 : Int) = (z2 : Int) ∧ IntKind.u32.wrap (z3 : Int) = (z3 : Int) ∧
    bits .or .u32 (a0 : Int) (a1 : Int) = (t1 : Int) ∧ bits .or .u32 (t1 : Int) (a2 : Int) = (t2 : Int) ∧ bits .or .u32 (t2 : Int) (z3 : Int) = (X : Int) ∧ X = ((z0 * 16777216 ||| z1 * 65536) ||| z2 * 256) ||| z3 := by
  refine ⟨z0 * 16777216, z1 * 65536, z2 * 256, z0 * 16777216 ||| z1 * 65536, (z0 * 16777216 ||| z1 * 65536) ||| z2 * 256, _, ?_, ?_, ?_, ?_, ?_, ?_, ?_, ?_, ?_, ?_, rfl⟩
  · rw [IntKind.wrap_u32]; omega
  · rw [IntKind.wrap_u32]; omega
  · rw [IntKind.wrap_u32]; omega
  · rw [IntKind.wrap_u32]; omega
  · rw [IntKind.wrap_u32]; omega
  · rw [IntKind.wrap_u32]; omega
  · rw [IntKind.wrap_u32]; omega
  · exact u32_or_nat (z0 * 16777216) (z1 * 65536) (by omega) (by omega)
  · exact u32_or_nat (z0 * 16777216 ||| z1 * 65536) (z2 * 256) (Nat.or_lt_two_pow (n := 32) (by omega) (by omega)) (by omega)
  · exact u32_or_nat ((z0 * 16777216 ||| z1 * 65536) ||| z2 * 256) z3 (Nat.or_lt_two_pow (n := 32) (Nat.or_lt_two_pow (n := 32) (by omega) (by omega)) (by omega)) (by omega)
theorem sp_ops {x : Nat} (hx : x < 4294967296) : ∃ P1 P : Nat, bits .xor .u32 ((rl x 25 : Nat) : Int) ((rl x 14 : Nat) : Int) = (P1 : Int) ∧ bits .xor .u32 (P1 : Int) ((x : Int) / 8) = (P : Int) ∧ P = sp x := by
  refine ⟨rl x 25 ^^^ rl x 14, sp x, u32_xor_nat _ _ (rl_lt hx) (rl_lt hx), ?_, rfl⟩
  exact u32_xor_nat (rl x 25 ^^^ rl x 14) (x / 8) (Nat.xor_lt_two_pow (n := 32) (rl_lt hx) (rl_lt hx)) (by omega)
theorem sq_ops {y : Nat} (hx : y < 4294967296) : ∃ P1 P : Nat, bits .xor .u32 ((rl y 15 : Nat) : Int) ((rl y 13 : Nat) : Int) = (P1 : Int) ∧ bits .xor .u32 (P1 : Int) ((y : Int) / 1024) = (P : Int) ∧ P = sq y := by
  refine ⟨rl y 15 ^^^ rl y 13, sq y, u32_xor_nat _ _ (rl_lt hx) (rl_lt hx), ?_, rfl⟩
  exact u32_xor_nat (rl y 15 ^^^ rl y 13) (y / 1024) (Nat.xor_lt_two_pow (n := 32) (rl_lt hx) (rl_lt hx)) (by omega)
theorem add_op (a b : Nat) : IntKind.u32.wrap ((a : Int) + (b : Int)) = (((a + b) % 4294967296 : Nat) : Int) := by rw [IntKind.wrap_u32]; omega
theorem add_ops (a p b q : Nat) : ∃ S1 S2 S3 : Nat, IntKind.u32.wrap ((a : Int) + (p : Int)) = (S1 : Int) ∧ IntKind.u32.wrap ((S1 : Int) + (b : Int)) = (S2 : Int) ∧ IntKind.u32.wrap ((S2 : Int) + (q : Int)) = (S3 : Int) ∧ S3 = (((a + p) % 4294967296 + b) % 4294967296 + q) % 4294967296 :=
  ⟨_, _, _, add_op a p, add_op _ b, add_op _ q, rfl⟩
theorem word_lt (b : List UInt8) (i : Nat) : word b i < 4294967296 := by
  have h0 := bt_lt b (4 * i)
  have h1 := bt_lt b (4 * i + 1)
  have h2 := bt_lt b (4 * i + 2)
  have h3 := bt_lt b (4 * i + 3)
  unfold word
  exact Nat.or_lt_two_pow (n := 32) (Nat.or_lt_two_pow (n := 32) (Nat.or_lt_two_pow (n := 32) (by omega) (by omega)) (by omega)) (by omega)
theorem next_lt (w : List Nat) (i : Nat) : next w i < 4294967296 := Nat.mod_lt _ (by omega)
theorem spr_lt (b : List UInt8) : ∀ k, ∀ x ∈ spr b k, x < 4294967296
  | 0, x, h => by simp [spr] at h
  | k + 1, x, h => by
    rw [spr, List.mem_append] at h
    rcases h with h | h
    · exact spr_lt b k x h
    · simp only [List.mem_singleton] at h
      subst h
      split
      · exact word_lt b k
      · exact next_lt _ _
theorem at'_lt {l : List Nat} (h : ∀ x ∈ l, x < 4294967296) (i : Nat) : at' l i < 4294967296 := by
  unfold at'
  cases hx : l[i]? with
  | none => simp
  | some x => exact h x (List.mem_of_getElem? hx)
set_option maxRecDepth 100000 in
set_option maxHeartbeats 6400000 in
theorem spread_any (w : World) (A : Option Addr) (n c : Nat) (b : List UInt8) (hb : Sl w w.heap.size A (bv b)) (h0 : n = b.length) (hl : 64 ≤ n) (hn : n ≤ 1000000000) :
    Calls Tryd.prog 24 #[.slice A n c] w fun e w' => e = .returned (.agg (u32s (spr b 64)).toArray) ∧ Below w.heap.size w w' := by
  have HN := Lib.hid h0
  clear h0
  have hR := At.new w 50 (u32s z64).toArray
  have hb1 := balloc (Below.refl w.heap.size w) (.cells (u32s z64).toArray 50)
  generalize hw1 : w.alloc (.cells (u32s z64).toArray 50) = w1 at *
  have hgr : w.heap.size < w1.heap.size := hR.1
  have hW := At.new w1 50 (u32s z64).toArray
  have hb2 := hb1.alloc hb1.size (.cells (u32s z64).toArray 50)
  have hR2 := hR.alloc (.cells (u32s z64).toArray 50)
  replace hW : At (w1.alloc (.cells (u32s z64).toArray 50)) w1.heap.size (u32s (pad64 (spr b 0))) := hW
  replace hR2 : At (w1.alloc (.cells (u32s z64).toArray 50)) w.heap.size (u32s z64) := hR2
  go_enter Tryd.func24, Tryd.ntmps24
  go_wp2_with (refine opVal rfl (ex_al64 rfl) ?_)
  generalize w1.alloc (.cells (u32s z64).toArray 50) = w2 at hW hb2 hR2 ⊢
  have hgw : w.heap.size ≤ w1.heap.size := hb1.size
  have hge : w.heap.size ≤ w.heap.size := Nat.le_refl _
  generalize w1.heap.size = gw at hW hgw hgr ⊢
  generalize hgrr : w.heap.size = gr at hR2 hgr hge ⊢
  have hgr9 : w.heap.size ≤ gr := by omega
  have hne : gr ≠ gw := by omega
  clear hgrr hge hgr hR hb1 hw1
  go_loopw [10] (fun x10 wr => ∃ k : Nat, k ≤ 16 ∧ x10 = .int .i64 (k : Int) ∧ At wr gw (u32s (pad64 (spr b k))) ∧ At wr gr (u32s z64) ∧ Below w.heap.size w wr) (fun x10 _ => 16 - (intOf x10).toNat)
  case atStart => exact ⟨0, by omega, rfl, hW, hR2, hb2⟩
  case round =>
    clear hW hR2 hb2
    obtain ⟨k, hk, rfl, hW, hR, hbel⟩ := hrel
    by_cases hlt : k < 16
    · obtain ⟨b0, o0, rfl, _, hbW, y0⟩ := u8AtB hb (k := 4 * k) (by have := HN.out; omega)
      obtain ⟨b9, o9, e9, _, _, y1⟩ := u8AtB hb (k := 4 * k + 1) (by have := HN.out; omega)
      cases e9
      obtain ⟨b9, o9, e9, _, _, y2⟩ := u8AtB hb (k := 4 * k + 2) (by have := HN.out; omega)
      cases e9
      obtain ⟨b9, o9, e9, _, _, y3⟩ := u8AtB hb (k := 4 * k + 3) (by have := HN.out; omega)
      cases e9
      have hd1 : decide ((k : Int) < 16) = true := by rw [decide_eq_true_eq]; omega
      have hword : word b k = ((bt b (4 * k) * 16777216 ||| bt b (4 * k + 1) * 65536) ||| bt b (4 * k + 2) * 256) ||| bt b (4 * k + 3) := rfl
      have hstep : spr b (k + 1) = spr b k ++ [word b k] := by rw [spr, if_pos hlt]
      have hwl := word_lt b k
      have l0 := bt_lt b (4 * k)
      have l1 := bt_lt b (4 * k + 1)
      have l2 := bt_lt b (4 * k + 2)
      have l3 := bt_lt b (4 * k + 3)
      generalize bt b (4 * k) = z0 at *
      generalize bt b (4 * k + 1) = z1 at *
      generalize bt b (4 * k + 2) = z2 at *
      generalize bt b (4 * k + 3) = z3 at *
      have q0 := cellB y0
      have q1 := cellB y1
      have q2 := cellB y2
      have q3 := cellB y3
      clear y0 y1 y2 y3
      obtain ⟨a0, a1, a2, t1, t2, X, s0, s1, s2, c0, c1, c2, c3, o1, o2, o3, hX⟩ := word_ops l0 l1 l2 l3
      rw [← hX] at hword
      rw [hword] at hstep hwl
      have HST := Lib.hid hstep
      clear hword hstep hX
      obtain ⟨j0, hj0⟩ : ∃ j, 4 * k = j := ⟨_, rfl⟩
      obtain ⟨j1, hj1⟩ : ∃ j, 4 * k + 1 = j := ⟨_, rfl⟩
      obtain ⟨j2, hj2⟩ : ∃ j, 4 * k + 2 = j := ⟨_, rfl⟩
      obtain ⟨j3, hj3⟩ : ∃ j, 4 * k + 3 = j := ⟨_, rfl⟩
      rw [hj0] at q0
      rw [hj1] at q1
      rw [hj2] at q2
      rw [hj3] at q3
      have i0 : IntKind.i64.wrap (4 * (k : Int)) = (j0 : Int) := by rw [IntKind.wrap_i64]; omega
      have i1 : IntKind.i64.wrap ((j0 : Int) + 1) = (j1 : Int) := by rw [IntKind.wrap_i64]; omega
      have i2 : IntKind.i64.wrap ((j0 : Int) + 2) = (j2 : Int) := by rw [IntKind.wrap_i64]; omega
      have i3 : IntKind.i64.wrap ((j0 : Int) + 3) = (j3 : Int) := by rw [IntKind.wrap_i64]; omega
      have i4 : IntKind.i64.wrap (j0 : Int) = (j0 : Int) := by rw [IntKind.wrap_i64]; omega
      have i5 : IntKind.i64.wrap (j1 : Int) = (j1 : Int) := by rw [IntKind.wrap_i64]; omega
      have i6 : IntKind.i64.wrap (j2 : Int) = (j2 : Int) := by rw [IntKind.wrap_i64]; omega
      have i7 : IntKind.i64.wrap (j3 : Int) = (j3 : Int) := by rw [IntKind.wrap_i64]; omega
      have i8 : IntKind.i64.wrap (k : Int) = (k : Int) := by rw [IntKind.wrap_i64]; omega
      have b0' : (0 : Int) ≤ (j0 : Int) := by omega
      have b1' : (j0 : Int) < (n : Int) := by omega
      have b2' : (0 : Int) ≤ (j1 : Int) := by omega
      have b3' : (j1 : Int) < (n : Int) := by omega
      have b4' : (0 : Int) ≤ (j2 : Int) := by omega
      have b5' : (j2 : Int) < (n : Int) := by omega
      have b6' : (0 : Int) ≤ (j3 : Int) := by omega
      have b7' : (j3 : Int) < (n : Int) := by omega
      have b8' : (0 : Int) ≤ (k : Int) := by omega
      have b9' : (k : Int) < 64 := by omega
      clear hj0 hj1 hj2 hj3
      have hz9 := pad_zero (spr b k) k (by rw [spr_len]; exact Nat.le_refl _) (by omega)
      have hcW := hW.c k hz9
      have hfW := hW.f k hz9
      have hW2 : At (wr.setCell ⟨gw, k, none⟩ (.int .u32 (X : Int))) gw (u32s (pad64 (spr b (k + 1)))) := by
        have h := hW.set k (.int .u32 (X : Int)) (by rw [u32s_len, pad_len _ (by rw [spr_len]; omega)]; omega)
        have e := pad_set (spr b k) X (by rw [spr_len]; omega)
        rw [spr_len] at e
        rw [e, ← HST.out] at h
        exact h
      have hR2 := hR.set_other k (.int .u32 (X : Int)) (Ne.symm hne)
      have hbel2 := hbel.setCell (p := ⟨gw, k, none⟩) hgw (.int .u32 (X : Int))
      clear hz9 HST
      go_wp2_with fail
      have hS0 : KB w.heap wr.drew := KB.of hbel.drew
      refine bstartH (w.heap) (by kernel_rfl) ?_
      refine btake 0 (oi := _) (v := ?_) (by simp only [List.getElem?_toArray, List.getElem?_cons_zero]; rfl) (by kernel_rfl) (by exact fun _ _ _ h => h) (by first | assumption | exact KB.refl _) (.inl ⟨by rfl, fun W hW => ?_⟩) ?_; rotate_left
      · (go_simp; first | done | with_reducible rfl)
      try simp only [Act.put, List.setIfInBounds_toArray, List.set_cons_zero, List.set_cons_succ]
      refine btake 1 (oi := _) (v := ?_) (by simp only [List.getElem?_toArray, List.getElem?_cons_succ, List.getElem?_cons_zero]; rfl) (by kernel_rfl) (by exact fun _ _ _ h => h) (by first | assumption | exact KB.refl _) (.inl ⟨by rfl, fun W hW => ?_⟩) ?_; rotate_left
      · (go_simp; first | done | with_reducible rfl)
      try simp only [Act.put, List.setIfInBounds_toArray, List.set_cons_zero, List.set_cons_succ]
      refine btake 2 (oi := _) (v := ?_) (by simp only [List.getElem?_toArray, List.getElem?_cons_succ, List.getElem?_cons_zero]; rfl) (by kernel_rfl) (by exact fun _ _ _ h => h) (by first | assumption | exact KB.refl _) (.inl ⟨by rfl, fun W hW => ?_⟩) ?_; rotate_left
      · (go_simp; first | done | with_reducible rfl)
      try simp only [Act.put, List.setIfInBounds_toArray, List.set_cons_zero, List.set_cons_succ]
      refine btake 3 (oi := _) (v := ?_) (by simp only [List.getElem?_toArray, List.getElem?_cons_succ, List.getElem?_cons_zero]; rfl) (by kernel_rfl) (by exact fun _ _ _ h => h) (by first | assumption | exact KB.refl _) (.inl ⟨by rfl, fun W hW => ?_⟩) ?_; rotate_left
      · (go_simp; first | done | with_reducible rfl)
      try simp only [Act.put, List.setIfInBounds_toArray, List.set_cons_zero, List.set_cons_succ]
      refine btake 4 (oi := _) (v := ?_) (by simp only [List.getElem?_toArray, List.getElem?_cons_succ, List.getElem?_cons_zero]; rfl) (by kernel_rfl) (by exact fun _ _ _ h => h) (by first | assumption | exact KB.refl _) (.inl ⟨by rfl, fun W hW => ?_⟩) ?_; rotate_left
      · (go_simp; first | done | with_reducible rfl)
      try simp only [Act.put, List.setIfInBounds_toArray, List.set_cons_zero, List.set_cons_succ]
      refine btake 5 (oi := _) (v := ?_) (by simp only [List.getElem?_toArray, List.getElem?_cons_succ, List.getElem?_cons_zero]; rfl) (by kernel_rfl) (by exact fun _ _ _ h => h) (by first | assumption | exact KB.refl _) (.inl ⟨by rfl, fun W hW => ?_⟩) ?_; rotate_left
      · (go_simp; first | done | with_reducible rfl)
      try simp only [Act.put, List.setIfInBounds_toArray, List.set_cons_zero, List.set_cons_succ]
      refine btake 6 (oi := _) (v := ?_) (by simp only [List.getElem?_toArray, List.getElem?_cons_succ, List.getElem?_cons_zero]; rfl) (by kernel_rfl) (by exact fun _ _ _ h => h) (by first | assumption | exact KB.refl _) (.inl ⟨by rfl, fun W hW => ?_⟩) ?_; rotate_left
      · (go_simp; first | done | with_reducible rfl)
      try simp only [Act.put, List.setIfInBounds_toArray, List.set_cons_zero, List.set_cons_succ]
      refine btake 7 (oi := _) (v := ?_) (by simp only [List.getElem?_toArray, List.getElem?_cons_succ, List.getElem?_cons_zero]; rfl) (by kernel_rfl) (by exact fun _ _ _ h => h) (by first | assumption | exact KB.refl _) (.inl ⟨by rfl, fun W hW => ?_⟩) ?_; rotate_left
      · (go_simp; first | done | with_reducible rfl)
      try simp only [Act.put, List.setIfInBounds_toArray, List.set_cons_zero, List.set_cons_succ]
      refine btake 8 (oi := _) (v := ?_) (by simp only [List.getElem?_toArray, List.getElem?_cons_succ, List.getElem?_cons_zero]; rfl) (by kernel_rfl) (by exact fun _ _ _ h => h) (by first | assumption | exact KB.refl _) (.inl ⟨by rfl, fun W hW => ?_⟩) ?_; rotate_left
      · (go_simp; first | done | with_reducible rfl)
      try simp only [Act.put, List.setIfInBounds_toArray, List.set_cons_zero, List.set_cons_succ]
      refine btake 9 (oi := _) (v := ?_) (by simp only [List.getElem?_toArray, List.getElem?_cons_succ, List.getElem?_cons_zero]; rfl) (by kernel_rfl) (by exact fun _ _ _ h => h) (by first | assumption | exact KB.refl _) (.inl ⟨by rfl, fun W hW => ?_⟩) ?_; rotate_left
      · (go_simp; first | done | with_reducible rfl)
      try simp only [Act.put, List.setIfInBounds_toArray, List.set_cons_zero, List.set_cons_succ]
      refine btake 10 (oi := _) (v := ?_) (by simp only [List.getElem?_toArray, List.getElem?_cons_succ, List.getElem?_cons_zero]; rfl) (by kernel_rfl) (by exact fun _ _ _ h => h) (by first | assumption | exact KB.refl _) (.inl ⟨by rfl, fun W hW => ?_⟩) ?_; rotate_left
      · (go_simp; first | done | with_reducible rfl)
      try simp only [Act.put, List.setIfInBounds_toArray, List.set_cons_zero, List.set_cons_succ]
      refine btake 11 (oi := _) (v := ?_) (by simp only [List.getElem?_toArray, List.getElem?_cons_succ, List.getElem?_cons_zero]; rfl) (by kernel_rfl) (by exact fun _ _ _ h => h) (by first | assumption | exact KB.refl _) (.inl ⟨by rfl, fun W hW => ?_⟩) ?_; rotate_left
      · (go_simp; first | done | with_reducible rfl)
      try simp only [Act.put, List.setIfInBounds_toArray, List.set_cons_zero, List.set_cons_succ]
      refine btake 12 (oi := _) (v := ?_) (by simp only [List.getElem?_toArray, List.getElem?_cons_succ, List.getElem?_cons_zero]; rfl) (by kernel_rfl) (by exact fun _ _ _ h => h) (by first | assumption | exact KB.refl _) (.inl ⟨by rfl, fun W hW => ?_⟩) ?_; rotate_left
      · (go_simp; first | done | with_reducible rfl)
      try simp only [Act.put, List.setIfInBounds_toArray, List.set_cons_zero, List.set_cons_succ]
      refine btake 13 (oi := _) (v := ?_) (by simp only [List.getElem?_toArray, List.getElem?_cons_succ, List.getElem?_cons_zero]; rfl) (by kernel_rfl) (by exact fun _ _ _ h => h) (by first | assumption | exact KB.refl _) (.inl ⟨by rfl, fun W hW => ?_⟩) ?_; rotate_left
      · (go_simp; first | done | with_reducible rfl)
      try simp only [Act.put, List.setIfInBounds_toArray, List.set_cons_zero, List.set_cons_succ]
      refine btake 14 (oi := _) (v := ?_) (by simp only [List.getElem?_toArray, List.getElem?_cons_succ, List.getElem?_cons_zero]; rfl) (by kernel_rfl) (by exact fun _ _ _ h => h) (by first | assumption | exact KB.refl _) (.inl ⟨by rfl, fun W hW => ?_⟩) ?_; rotate_left
      · (go_simp; first | done | with_reducible rfl)
      try simp only [Act.put, List.setIfInBounds_toArray, List.set_cons_zero, List.set_cons_succ]
      refine btake 15 (oi := _) (v := ?_) (by simp only [List.getElem?_toArray, List.getElem?_cons_succ, List.getElem?_cons_zero]; rfl) (by kernel_rfl) (by exact fun _ _ _ h => h) (by first | assumption | exact KB.refl _) (.inl ⟨by rfl, fun W hW => ?_⟩) ?_; rotate_left
      · (go_simp; first | done | with_reducible rfl)
      try simp only [Act.put, List.setIfInBounds_toArray, List.set_cons_zero, List.set_cons_succ]
      refine btake 16 (oi := _) (v := ?_) (by simp only [List.getElem?_toArray, List.getElem?_cons_succ, List.getElem?_cons_zero]; rfl) (by kernel_rfl) (by exact fun _ _ _ h => h) (by first | assumption | exact KB.refl _) (.inl ⟨by rfl, fun W hW => ?_⟩) ?_; rotate_left
      · (go_simp; first | done | with_reducible rfl)
      try simp only [Act.put, List.setIfInBounds_toArray, List.set_cons_zero, List.set_cons_succ]
      refine btake 17 (oi := _) (v := ?_) (by simp only [List.getElem?_toArray, List.getElem?_cons_succ, List.getElem?_cons_zero]; rfl) (by kernel_rfl) (by exact fun _ _ _ h => h) (by first | assumption | exact KB.refl _) (.inl ⟨by rfl, fun W hW => ?_⟩) ?_; rotate_left
      · (go_simp; first | done | with_reducible rfl)
      try simp only [Act.put, List.setIfInBounds_toArray, List.set_cons_zero, List.set_cons_succ]
      refine btake 18 (oi := _) (v := ?_) (by simp only [List.getElem?_toArray, List.getElem?_cons_succ, List.getElem?_cons_zero]; rfl) (by kernel_rfl) (by exact fun _ _ _ h => h) (by first | assumption | exact KB.refl _) (.inl ⟨by rfl, fun W hW => ?_⟩) ?_; rotate_left
      · (go_simp; first | done | with_reducible rfl)
      try simp only [Act.put, List.setIfInBounds_toArray, List.set_cons_zero, List.set_cons_succ]
      refine btake 19 (oi := _) (v := ?_) (by simp only [List.getElem?_toArray, List.getElem?_cons_succ, List.getElem?_cons_zero]; rfl) (by kernel_rfl) (by exact fun _ _ _ h => h) (by first | assumption | exact KB.refl _) (.inl ⟨by rfl, fun W hW => ?_⟩) ?_; rotate_left
      · (go_simp; first | done | with_reducible rfl)
      try simp only [Act.put, List.setIfInBounds_toArray, List.set_cons_zero, List.set_cons_succ]
      refine btake 20 (oi := _) (v := ?_) (by simp only [List.getElem?_toArray, List.getElem?_cons_succ, List.getElem?_cons_zero]; rfl) (by kernel_rfl) (by exact fun _ _ _ h => h) (by first | assumption | exact KB.refl _) (.inl ⟨by rfl, fun W hW => ?_⟩) ?_; rotate_left
      · (go_simp; first | done | with_reducible rfl)
      try simp only [Act.put, List.setIfInBounds_toArray, List.set_cons_zero, List.set_cons_succ]
      refine btake 21 (oi := _) (v := ?_) (by simp only [List.getElem?_toArray, List.getElem?_cons_succ, List.getElem?_cons_zero]; rfl) (by kernel_rfl) (by exact fun _ _ _ h => h) (by first | assumption | exact KB.refl _) (.inl ⟨by rfl, fun W hW => ?_⟩) ?_; rotate_left
      · (go_simp; first | done | with_reducible rfl)
      try simp only [Act.put, List.setIfInBounds_toArray, List.set_cons_zero, List.set_cons_succ]
      refine btake 22 (oi := _) (v := ?_) (by simp only [List.getElem?_toArray, List.getElem?_cons_succ, List.getElem?_cons_zero]; rfl) (by kernel_rfl) (by exact fun _ _ _ h => h) (by first | assumption | exact KB.refl _) (.inl ⟨by rfl, fun W hW => ?_⟩) ?_; rotate_left
      · (go_simp; first | done | with_reducible rfl)
      try simp only [Act.put, List.setIfInBounds_toArray, List.set_cons_zero, List.set_cons_succ]
      refine btake 23 (oi := _) (v := ?_) (by simp only [List.getElem?_toArray, List.getElem?_cons_succ, List.getElem?_cons_zero]; rfl) (by kernel_rfl) (by exact fun _ _ _ h => h) (by first | assumption | exact KB.refl _) (.inl ⟨by rfl, fun W hW => ?_⟩) ?_; rotate_left
      · (go_simp; first | done | with_reducible rfl)
      try simp only [Act.put, List.setIfInBounds_toArray, List.set_cons_zero, List.set_cons_succ]
      refine btake 24 (oi := _) (v := ?_) (by simp only [List.getElem?_toArray, List.getElem?_cons_succ, List.getElem?_cons_zero]; rfl) (by kernel_rfl) (by exact fun _ _ _ h => h) (by first | assumption | exact KB.refl _) (.inl ⟨by rfl, fun W hW => ?_⟩) ?_; rotate_left
      · (go_simp; first | done | with_reducible rfl)
      try simp only [Act.put, List.setIfInBounds_toArray, List.set_cons_zero, List.set_cons_succ]
      refine btake 25 (oi := _) (v := ?_) (by simp only [List.getElem?_toArray, List.getElem?_cons_succ, List.getElem?_cons_zero]; rfl) (by kernel_rfl) (by exact fun _ _ _ h => h) (by first | assumption | exact KB.refl _) (.inl ⟨by rfl, fun W hW => ?_⟩) ?_; rotate_left
      · (go_simp; first | done | with_reducible rfl)
      try simp only [Act.put, List.setIfInBounds_toArray, List.set_cons_zero, List.set_cons_succ]
      refine btake 26 (oi := _) (v := ?_) (by simp only [List.getElem?_toArray, List.getElem?_cons_succ, List.getElem?_cons_zero]; rfl) (by kernel_rfl) (by exact fun _ _ _ h => h) (by first | assumption | exact KB.refl _) (.inl ⟨by rfl, fun W hW => ?_⟩) ?_; rotate_left
      · (go_simp; first | done | with_reducible rfl)
      try simp only [Act.put, List.setIfInBounds_toArray, List.set_cons_zero, List.set_cons_succ]
      refine btake 27 (oi := _) (v := ?_) (by simp only [List.getElem?_toArray, List.getElem?_cons_succ, List.getElem?_cons_zero]; rfl) (by kernel_rfl) (by exact fun _ _ _ h => h) (by first | assumption | exact KB.refl _) (.inl ⟨by rfl, fun W hW => ?_⟩) ?_; rotate_left
      · (go_simp; first | done | with_reducible rfl)
      try simp only [Act.put, List.setIfInBounds_toArray, List.set_cons_zero, List.set_cons_succ]
      refine btake 28 (oi := _) (v := ?_) (by simp only [List.getElem?_toArray, List.getElem?_cons_succ, List.getElem?_cons_zero]; rfl) (by kernel_rfl) (by exact fun _ _ _ h => h) (by first | assumption | exact KB.refl _) (.inl ⟨by rfl, fun W hW => ?_⟩) ?_; rotate_left
      · (go_simp; first | done | with_reducible rfl)
      try simp only [Act.put, List.setIfInBounds_toArray, List.set_cons_zero, List.set_cons_succ]
      refine btake 29 (oi := _) (v := ?_) (by simp only [List.getElem?_toArray, List.getElem?_cons_succ, List.getElem?_cons_zero]; rfl) (by kernel_rfl) (by exact fun _ _ _ h => h) (by first | assumption | exact KB.refl _) (.inl ⟨by rfl, fun W hW => ?_⟩) ?_; rotate_left
      · (go_simp; first | done | with_reducible rfl)
      try simp only [Act.put, List.setIfInBounds_toArray, List.set_cons_zero, List.set_cons_succ]
      refine btake 30 (oi := _) (v := ?_) (by simp only [List.getElem?_toArray, List.getElem?_cons_succ, List.getElem?_cons_zero]; rfl) (by kernel_rfl) (by exact fun _ _ _ h => h) (by first | assumption | exact KB.refl _) (.inl ⟨by rfl, fun W hW => ?_⟩) ?_; rotate_left
      · (go_simp; first | done | with_reducible rfl)
      try simp only [Act.put, List.setIfInBounds_toArray, List.set_cons_zero, List.set_cons_succ]
      refine btake 31 (oi := _) (v := ?_) (by simp only [List.getElem?_toArray, List.getElem?_cons_succ, List.getElem?_cons_zero]; rfl) (by kernel_rfl) (by exact fun _ _ _ h => h) (by first | assumption | exact KB.refl _) (.inl ⟨by rfl, fun W hW => ?_⟩) ?_; rotate_left
      · (go_simp; first | done | with_reducible rfl)
      try simp only [Act.put, List.setIfInBounds_toArray, List.set_cons_zero, List.set_cons_succ]
      refine btake 32 (oi := _) (v := ?_) (by simp only [List.getElem?_toArray, List.getElem?_cons_succ, List.getElem?_cons_zero]; rfl) (by kernel_rfl) (by exact fun _ _ _ h => h) (by first | assumption | exact KB.refl _) (.inl ⟨by rfl, fun W hW => ?_⟩) ?_; rotate_left
      · (go_simp; first | done | with_reducible rfl)
      try simp only [Act.put, List.setIfInBounds_toArray, List.set_cons_zero, List.set_cons_succ]
      refine btake 33 (oi := _) (v := ?_) (by simp only [List.getElem?_toArray, List.getElem?_cons_succ, List.getElem?_cons_zero]; rfl) (by kernel_rfl) (by exact fun _ _ _ h => h) (by first | assumption | exact KB.refl _) (.inl ⟨by rfl, fun W hW => ?_⟩) ?_; rotate_left
      · (go_simp; first | done | with_reducible rfl)
      try simp only [Act.put, List.setIfInBounds_toArray, List.set_cons_zero, List.set_cons_succ]
      refine btake 34 (oi := _) (v := ?_) (by simp only [List.getElem?_toArray, List.getElem?_cons_succ, List.getElem?_cons_zero]; rfl) (by kernel_rfl) (by exact fun _ _ _ h => h) (by first | assumption | exact KB.refl _) (.inl ⟨by rfl, fun W hW => ?_⟩) ?_; rotate_left
      · (go_simp; first | done | with_reducible rfl)
      try simp only [Act.put, List.setIfInBounds_toArray, List.set_cons_zero, List.set_cons_succ]
      -- 35: Op.store 41 (Operand.tmp 47) (Operand.tmp 46)
      refine bopH 35 (o := _) (by simp only [List.getElem?_toArray, List.getElem?_cons_succ, List.getElem?_cons_zero]; rfl) (by kernel_rfl) (by first | assumption | exact KB.refl _) (by rfl) (fun K hK => ?_)
      go_simp
      have hkb : KB w.heap (wr.setCell ⟨gw, k, none⟩ (.int .u32 (X : Int))).drew := KB.of hbel2.drew
      refine hK.out _ _ hkb ?_; clear hK K
      try simp only [Act.put, List.setIfInBounds_toArray, List.set_cons_zero, List.set_cons_succ]
      refine bdone (by kernel_rfl) ?_
      have hW3 := hW2.drew
      have hR3 := hR2.drew
      have hbel3 := hbel2.drew
      clear hkb hS0 q0 q1 q2 q3 hcW hfW hW hR hbel hW2 hR2 hbel2 s0 s1 s2 c0 c1 c2 c3 o1 o2 o3 i0 i1 i2 i3 i4 i5 i6 i7 i8
      go_wp2_with fail
      go_roundw
      case rel => exact ⟨k + 1, by omega, by go_num, hW3, hR3, hbel3⟩
      case measure => simp [intOf] <;> omega
    · obtain rfl : k = 16 := by omega
      rw [show (((16 : Nat)) : Int) = (16 : Int) from rfl]
      go_wp2_with fail
      go_loopw [5] (fun x5 wr => ∃ k : Nat, 16 ≤ k ∧ k ≤ 64 ∧ x5 = .int .i64 (k : Int) ∧ At wr gw (u32s (pad64 (spr b k))) ∧ At wr gr (u32s z64) ∧ Below w.heap.size w wr) (fun x5 _ => 64 - (intOf x5).toNat)
      case atStart => exact ⟨16, by omega, by omega, rfl, hW, hR, hbel⟩
      case round =>
        clear hW hR hbel hb
        obtain ⟨k, hk0, hk, rfl, hW, hR, hbel⟩ := hrel
        by_cases hlt : k < 64
        · have hd1 : decide ((k : Int) < 64) = true := by rw [decide_eq_true_eq]; omega
          have hWp := at_pad hW
          have hsl := spr_len b k
          have y15 := hWp.c (k - 15) (u32s_get _ (k - 15) (by omega))
          have y2 := hWp.c (k - 2) (u32s_get _ (k - 2) (by omega))
          have g16 := AtS.e (g := gw) (vs := u32s (spr b k)) (k - 16) (u32s_get _ (k - 16) (by omega))
          have g7 := AtS.e (g := gw) (vs := u32s (spr b k)) (k - 7) (u32s_get _ (k - 7) (by omega))
          have hlt15 := at'_lt (spr_lt b k) (k - 15)
          have hlt2 := at'_lt (spr_lt b k) (k - 2)
          have hlt16 := at'_lt (spr_lt b k) (k - 16)
          have hlt7 := at'_lt (spr_lt b k) (k - 7)
          have hstep : spr b (k + 1) = spr b k ++ [next (spr b k) k] := by rw [spr, if_neg (by omega)]
          unfold next at hstep
          generalize at' (spr b k) (k - 15) = x15 at *
          generalize at' (spr b k) (k - 2) = x2 at *
          generalize at' (spr b k) (k - 16) = x16 at *
          generalize at' (spr b k) (k - 7) = x7 at *
          obtain ⟨P1, P, hP1, hP2, hP3⟩ := sp_ops hlt15
          obtain ⟨Q1, Q, hQ1, hQ2, hQ3⟩ := sq_ops hlt2
          rw [← hP3, ← hQ3] at hstep
          obtain ⟨S1, S2, S3, hS1, hS2, hS3, hS4⟩ := add_ops x16 P x7 Q
          rw [← hS4] at hstep
          have HST := Lib.hid hstep
          have e15 := cellB y15
          have e2 := cellB y2
          clear hstep hP3 hQ3 hS4 y15 y2
          obtain ⟨j15, hj15⟩ : ∃ j, k - 15 = j := ⟨_, rfl⟩
          obtain ⟨j2, hj2⟩ : ∃ j, k - 2 = j := ⟨_, rfl⟩
          obtain ⟨j16, hj16⟩ : ∃ j, k - 16 = j := ⟨_, rfl⟩
          obtain ⟨j7, hj7⟩ : ∃ j, k - 7 = j := ⟨_, rfl⟩
          rw [hj15] at e15
          rw [hj2] at e2
          rw [hj16] at g16
          rw [hj7] at g7
          have i0 : IntKind.i64.wrap ((k : Int) - 15) = (j15 : Int) := by rw [IntKind.wrap_i64]; omega
          have i1 : IntKind.i64.wrap ((k : Int) - 2) = (j2 : Int) := by rw [IntKind.wrap_i64]; omega
          have i2 : IntKind.i64.wrap ((k : Int) - 16) = (j16 : Int) := by rw [IntKind.wrap_i64]; omega
          have i3 : IntKind.i64.wrap ((k : Int) - 7) = (j7 : Int) := by rw [IntKind.wrap_i64]; omega
          have i4 : IntKind.i64.wrap (j15 : Int) = (j15 : Int) := by rw [IntKind.wrap_i64]; omega
          have i5 : IntKind.i64.wrap (j2 : Int) = (j2 : Int) := by rw [IntKind.wrap_i64]; omega
          have i6 : IntKind.i64.wrap (j16 : Int) = (j16 : Int) := by rw [IntKind.wrap_i64]; omega
          have i7 : IntKind.i64.wrap (j7 : Int) = (j7 : Int) := by rw [IntKind.wrap_i64]; omega
          have i8 : IntKind.i64.wrap (k : Int) = (k : Int) := by rw [IntKind.wrap_i64]; omega
          have b0' : (0 : Int) ≤ (j15 : Int) := by omega
          have b1' : (j15 : Int) < 64 := by omega
          have b2' : (0 : Int) ≤ (j2 : Int) := by omega
          have b3' : (j2 : Int) < 64 := by omega
          have b4' : (0 : Int) ≤ (j16 : Int) := by omega
          have b5' : (j16 : Int) < 64 := by omega
          have b6' : (0 : Int) ≤ (j7 : Int) := by omega
          have b7' : (j7 : Int) < 64 := by omega
          have b8' : (0 : Int) ≤ (k : Int) := by omega
          have b9' : (k : Int) < 64 := by omega
          clear hj15 hj2 hj16 hj7 hsl
          go_wp2_with fail
          refine bstart (by kernel_rfl) ?_
          refine btake 0 (oi := _) (v := ?_) (by simp only [List.getElem?_toArray, List.getElem?_cons_zero]; rfl) (by kernel_rfl) (by exact fun _ _ _ h => h) (by first | assumption | exact KB.refl _) (.inl ⟨by rfl, fun W hW => ?_⟩) ?_; rotate_left
          · (go_simp; first | done | with_reducible rfl)
          try simp only [Act.put, List.setIfInBounds_toArray, List.set_cons_zero, List.set_cons_succ]
          refine btake 1 (oi := _) (v := ?_) (by simp only [List.getElem?_toArray, List.getElem?_cons_succ, List.getElem?_cons_zero]; rfl) (by kernel_rfl) (by exact fun _ _ _ h => h) (by first | assumption | exact KB.refl _) (.inl ⟨by rfl, fun W hW => ?_⟩) ?_; rotate_left
          · (go_simp; first | done | with_reducible rfl)
          try simp only [Act.put, List.setIfInBounds_toArray, List.set_cons_zero, List.set_cons_succ]
          refine btake 2 (oi := _) (v := ?_) (by simp only [List.getElem?_toArray, List.getElem?_cons_succ, List.getElem?_cons_zero]; rfl) (by kernel_rfl) (by exact fun _ _ _ h => h) (by first | assumption | exact KB.refl _) (.inl ⟨by rfl, fun W hW => ?_⟩) ?_; rotate_left
          · (go_simp; first | done | with_reducible rfl)
          try simp only [Act.put, List.setIfInBounds_toArray, List.set_cons_zero, List.set_cons_succ]
          refine btake 3 (oi := _) (v := ?_) (by simp only [List.getElem?_toArray, List.getElem?_cons_succ, List.getElem?_cons_zero]; rfl) (by kernel_rfl) (by exact fun _ _ _ h => h) (by first | assumption | exact KB.refl _) (.inl ⟨by rfl, fun W hW => ?_⟩) ?_; rotate_left
          · (go_simp; first | done | with_reducible rfl)
          try simp only [Act.put, List.setIfInBounds_toArray, List.set_cons_zero, List.set_cons_succ]
          refine btake 4 (oi := _) (v := ?_) (by simp only [List.getElem?_toArray, List.getElem?_cons_succ, List.getElem?_cons_zero]; rfl) (by kernel_rfl) (by exact fun _ _ _ h => h) (by first | assumption | exact KB.refl _) (.inl ⟨by rfl, fun W hW => ?_⟩) ?_; rotate_left
          · (go_simp; first | done | with_reducible rfl)
          try simp only [Act.put, List.setIfInBounds_toArray, List.set_cons_zero, List.set_cons_succ]
          refine btake 5 (oi := _) (v := ?_) (by simp only [List.getElem?_toArray, List.getElem?_cons_succ, List.getElem?_cons_zero]; rfl) (by kernel_rfl) (by exact fun _ _ _ h => h) (by first | assumption | exact KB.refl _) (.inl ⟨by rfl, fun W hW => ?_⟩) ?_; rotate_left
          · (go_simp; first | done | with_reducible rfl)
          try simp only [Act.put, List.setIfInBounds_toArray, List.set_cons_zero, List.set_cons_succ]
          refine btake 6 (oi := _) (v := ?_) (by simp only [List.getElem?_toArray, List.getElem?_cons_succ, List.getElem?_cons_zero]; rfl) (by kernel_rfl) (by exact fun _ _ _ h => h) (by first | assumption | exact KB.refl _) (.inl ⟨by rfl, fun W hW => ?_⟩) ?_; rotate_left
          · (go_simp; first | done | with_reducible rfl)
          try simp only [Act.put, List.setIfInBounds_toArray, List.set_cons_zero, List.set_cons_succ]
          refine btake 7 (oi := _) (v := ?_) (by simp only [List.getElem?_toArray, List.getElem?_cons_succ, List.getElem?_cons_zero]; rfl) (by kernel_rfl) (by exact fun _ _ _ h => h) (by first | assumption | exact KB.refl _) (.inl ⟨by rfl, fun W hW => ?_⟩) ?_; rotate_left
          · (go_simp; first | done | with_reducible rfl)
          try simp only [Act.put, List.setIfInBounds_toArray, List.set_cons_zero, List.set_cons_succ]
          refine btake 8 (oi := _) (v := ?_) (by simp only [List.getElem?_toArray, List.getElem?_cons_succ, List.getElem?_cons_zero]; rfl) (by kernel_rfl) (by exact fun _ _ _ h => h) (by first | assumption | exact KB.refl _) (.inl ⟨by rfl, fun W hW => ?_⟩) ?_; rotate_left
          · (go_simp; first | done | with_reducible rfl)
          try simp only [Act.put, List.setIfInBounds_toArray, List.set_cons_zero, List.set_cons_succ]
          refine btake 9 (oi := _) (v := ?_) (by simp only [List.getElem?_toArray, List.getElem?_cons_succ, List.getElem?_cons_zero]; rfl) (by kernel_rfl) (by exact fun _ _ _ h => h) (by first | assumption | exact KB.refl _) (.inl ⟨by rfl, fun W hW => ?_⟩) ?_; rotate_left
          · (go_simp; first | done | with_reducible rfl)
          try simp only [Act.put, List.setIfInBounds_toArray, List.set_cons_zero, List.set_cons_succ]
          refine bdone (by kernel_rfl) ?_
          replace hW := hW.drew
          replace hWp := hWp.drew
          replace hR := hR.drew
          replace hbel := hbel.drew
          generalize wr.drew = wq at hW hWp hR hbel ⊢
          clear e15 e2 i0 i1 i4 i5 b0' b1' b2' b3'
          go_wp2_with fail
          refine (RotL_any wq x15 7 25 hlt15 (by omega) (by omega) rfl (-7) rfl).mono ?_
          rintro e w3 ⟨rfl, rfl⟩
          go_wp2_with fail
          refine (RotL_any wq x15 18 14 hlt15 (by omega) (by omega) rfl (-18) rfl).mono ?_
          rintro e w3 ⟨rfl, rfl⟩
          go_wp2_with fail
          refine (RotL_any wq x2 17 15 hlt2 (by omega) (by omega) rfl (-17) rfl).mono ?_
          rintro e w3 ⟨rfl, rfl⟩
          go_wp2_with fail
          refine (RotL_any wq x2 19 13 hlt2 (by omega) (by omega) rfl (-19) rfl).mono ?_
          rintro e w3 ⟨rfl, rfl⟩
          go_wp2_with fail
          clear hP1 hP2 hQ1 hQ2 hlt15 hlt2 hlt16 hlt7
          have hz9 := pad_zero (spr b k) k (by rw [spr_len]; exact Nat.le_refl _) hlt
          have hcW := hW.c k hz9
          have hfW := hW.f k hz9
          have hW2 : At (wq.setCell ⟨gw, k, none⟩ (.int .u32 (S3 : Int))) gw (u32s (pad64 (spr b (k + 1)))) := by
            have h := hW.set k (.int .u32 (S3 : Int)) (by rw [u32s_len, pad_len _ (by rw [spr_len]; omega)]; omega)
            have e := pad_set (spr b k) S3 (by rw [spr_len]; omega)
            rw [spr_len] at e
            rw [e, ← HST.out] at h
            exact h
          have hWp2 := hWp.beyond k (.int .u32 (S3 : Int)) (by rw [u32s_len, spr_len]; exact Nat.le_refl _)
          have hR2 := hR.set_other k (.int .u32 (S3 : Int)) (Ne.symm hne)
          have hbel2 := hbel.setCell (p := ⟨gw, k, none⟩) hgw (.int .u32 (S3 : Int))
          clear hz9 HST
          have hS0 : AtS gw (u32s (spr b k)) wq.drew := hWp.drew
          refine bstartS (AtS gw (u32s (spr b k))) (by kernel_rfl) ?_
          refine btakeS 0 (oi := _) (v := ?_) (by simp only [List.getElem?_toArray, List.getElem?_cons_zero]; rfl) (by kernel_rfl) (by exact fun _ _ _ h => h) (by first | assumption | exact KB.refl _) (.inl ⟨by rfl, fun W hW => ?_⟩) ?_; rotate_left
          · (go_simp; first | done | with_reducible rfl)
          try simp only [Act.put, List.setIfInBounds_toArray, List.set_cons_zero, List.set_cons_succ]
          refine btakeS 1 (oi := _) (v := ?_) (by simp only [List.getElem?_toArray, List.getElem?_cons_succ, List.getElem?_cons_zero]; rfl) (by kernel_rfl) (by exact fun _ _ _ h => h) (by first | assumption | exact KB.refl _) (.inl ⟨by rfl, fun W hW => ?_⟩) ?_; rotate_left
          · (go_simp; first | done | with_reducible rfl)
          try simp only [Act.put, List.setIfInBounds_toArray, List.set_cons_zero, List.set_cons_succ]
          refine btakeS 2 (oi := _) (v := ?_) (by simp only [List.getElem?_toArray, List.getElem?_cons_succ, List.getElem?_cons_zero]; rfl) (by kernel_rfl) (by exact fun _ _ _ h => h) (by first | assumption | exact KB.refl _) (.inl ⟨by rfl, fun W hW => ?_⟩) ?_; rotate_left
          · (go_simp; first | done | with_reducible rfl)
          try simp only [Act.put, List.setIfInBounds_toArray, List.set_cons_zero, List.set_cons_succ]
          refine btakeS 3 (oi := _) (v := ?_) (by simp only [List.getElem?_toArray, List.getElem?_cons_succ, List.getElem?_cons_zero]; rfl) (by kernel_rfl) (by exact fun _ _ _ h => h) (by first | assumption | exact KB.refl _) (.inl ⟨by rfl, fun W hW => ?_⟩) ?_; rotate_left
          · (go_simp; first | done | with_reducible rfl)
          try simp only [Act.put, List.setIfInBounds_toArray, List.set_cons_zero, List.set_cons_succ]
          refine btakeS 4 (oi := _) (v := ?_) (by simp only [List.getElem?_toArray, List.getElem?_cons_succ, List.getElem?_cons_zero]; rfl) (by kernel_rfl) (by exact fun _ _ _ h => h) (by first | assumption | exact KB.refl _) (.inl ⟨by rfl, fun W hW => ?_⟩) ?_; rotate_left
          · (go_simp; first | done | with_reducible rfl)
          try simp only [Act.put, List.setIfInBounds_toArray, List.set_cons_zero, List.set_cons_succ]
          refine btakeS 5 (oi := _) (v := ?_) (by simp only [List.getElem?_toArray, List.getElem?_cons_succ, List.getElem?_cons_zero]; rfl) (by kernel_rfl) (by exact fun _ _ _ h => h) (by first | assumption | exact KB.refl _) (.inl ⟨by rfl, fun W hW => ?_⟩) ?_; rotate_left
          · (go_simp; first | done | with_reducible rfl)
          try simp only [Act.put, List.setIfInBounds_toArray, List.set_cons_zero, List.set_cons_succ]
          refine btakeS 6 (oi := _) (v := ?_) (by simp only [List.getElem?_toArray, List.getElem?_cons_succ, List.getElem?_cons_zero]; rfl) (by kernel_rfl) (by exact fun _ _ _ h => h) (by first | assumption | exact KB.refl _) (.inl ⟨by rfl, fun W hW => ?_⟩) ?_; rotate_left
          · (go_simp; first | done | with_reducible rfl)
          try simp only [Act.put, List.setIfInBounds_toArray, List.set_cons_zero, List.set_cons_succ]
          refine btakeS 7 (oi := _) (v := ?_) (by simp only [List.getElem?_toArray, List.getElem?_cons_succ, List.getElem?_cons_zero]; rfl) (by kernel_rfl) (by exact fun _ _ _ h => h) (by first | assumption | exact KB.refl _) (.inl ⟨by rfl, fun W hW => ?_⟩) ?_; rotate_left
          · (go_simp; first | done | with_reducible rfl)
          try simp only [Act.put, List.setIfInBounds_toArray, List.set_cons_zero, List.set_cons_succ]
          refine btakeS 8 (oi := _) (v := ?_) (by simp only [List.getElem?_toArray, List.getElem?_cons_succ, List.getElem?_cons_zero]; rfl) (by kernel_rfl) (by exact fun _ _ _ h => h) (by first | assumption | exact KB.refl _) (.inl ⟨by rfl, fun W hW => ?_⟩) ?_; rotate_left
          · (go_simp; first | done | with_reducible rfl)
          try simp only [Act.put, List.setIfInBounds_toArray, List.set_cons_zero, List.set_cons_succ]
          refine btakeS 9 (oi := _) (v := ?_) (by simp only [List.getElem?_toArray, List.getElem?_cons_succ, List.getElem?_cons_zero]; rfl) (by kernel_rfl) (by exact fun _ _ _ h => h) (by first | assumption | exact KB.refl _) (.inl ⟨by rfl, fun W hW => ?_⟩) ?_; rotate_left
          · (go_simp; first | done | with_reducible rfl)
          try simp only [Act.put, List.setIfInBounds_toArray, List.set_cons_zero, List.set_cons_succ]
          refine btakeS 10 (oi := _) (v := ?_) (by simp only [List.getElem?_toArray, List.getElem?_cons_succ, List.getElem?_cons_zero]; rfl) (by kernel_rfl) (by exact fun _ _ _ h => h) (by first | assumption | exact KB.refl _) (.inl ⟨by rfl, fun W hW => ?_⟩) ?_; rotate_left
          · (go_simp; first | done | with_reducible rfl)
          try simp only [Act.put, List.setIfInBounds_toArray, List.set_cons_zero, List.set_cons_succ]
          refine btakeS 11 (oi := _) (v := ?_) (by simp only [List.getElem?_toArray, List.getElem?_cons_succ, List.getElem?_cons_zero]; rfl) (by kernel_rfl) (by exact fun _ _ _ h => h) (by first | assumption | exact KB.refl _) (.inl ⟨by rfl, fun W hW => ?_⟩) ?_; rotate_left
          · (go_simp; first | done | with_reducible rfl)
          try simp only [Act.put, List.setIfInBounds_toArray, List.set_cons_zero, List.set_cons_succ]
          refine btakeS 12 (oi := _) (v := ?_) (by simp only [List.getElem?_toArray, List.getElem?_cons_succ, List.getElem?_cons_zero]; rfl) (by kernel_rfl) (by exact fun _ _ _ h => h) (by first | assumption | exact KB.refl _) (.inl ⟨by rfl, fun W hW => ?_⟩) ?_; rotate_left
          · (go_simp; first | done | with_reducible rfl)
          try simp only [Act.put, List.setIfInBounds_toArray, List.set_cons_zero, List.set_cons_succ]
          refine btakeS 13 (oi := _) (v := ?_) (by simp only [List.getElem?_toArray, List.getElem?_cons_succ, List.getElem?_cons_zero]; rfl) (by kernel_rfl) (by exact fun _ _ _ h => h) (by first | assumption | exact KB.refl _) (.inl ⟨by rfl, fun W hW => ?_⟩) ?_; rotate_left
          · (go_simp; first | done | with_reducible rfl)
          try simp only [Act.put, List.setIfInBounds_toArray, List.set_cons_zero, List.set_cons_succ]
          refine btakeS 14 (oi := _) (v := ?_) (by simp only [List.getElem?_toArray, List.getElem?_cons_succ, List.getElem?_cons_zero]; rfl) (by kernel_rfl) (by exact fun _ _ _ h => h) (by first | assumption | exact KB.refl _) (.inl ⟨by rfl, fun W hW => ?_⟩) ?_; rotate_left
          · (go_simp; first | done | with_reducible rfl)
          try simp only [Act.put, List.setIfInBounds_toArray, List.set_cons_zero, List.set_cons_succ]
          -- 15: Op.store 41 (Operand.tmp 91) (Operand.tmp 90)
          refine bopS 15 (o := _) (by simp only [List.getElem?_toArray, List.getElem?_cons_succ, List.getElem?_cons_zero]; rfl) (by kernel_rfl) (by rfl) (fun K hK => ?_)
          go_simp
          have hkb : AtS gw (u32s (spr b k)) (wq.setCell ⟨gw, k, none⟩ (.int .u32 (S3 : Int))).drew := hWp2.drew
          refine hK.out _ _ hkb ?_; clear hK K
          try simp only [Act.put, List.setIfInBounds_toArray, List.set_cons_zero, List.set_cons_succ]
          refine bdoneS (by kernel_rfl) ?_
          have hW3 := hW2.drew
          have hR3 := hR2.drew
          have hbel3 := hbel2.drew
          clear hkb hS0 g16 g7 hcW hfW hW hR hbel hW2 hR2 hbel2 hWp hWp2 hS1 hS2 hS3 i2 i3 i6 i7 i8
          go_wp2_with fail
          go_roundw
          case rel => exact ⟨k + 1, by omega, by omega, by go_num, hW3, hR3, hbel3⟩
          case measure => simp [intOf] <;> omega
        · obtain rfl : k = 64 := by omega
          have hp : u32s (pad64 (spr b 64)) = u32s (spr b 64) := by
            unfold pad64
            rw [spr_len]
            simp
          rw [hp] at hW
          have hl64 : (u32s (spr b 64)).length = 64 := by rw [u32s_len, spr_len]
          have hRf := hR.putL (u32s (spr b 64)) (by rw [hl64]; rfl)
          have hbf := below_putL (u32s (spr b 64)) 0 hbel hgr9
          have HF := Lib.hid (And.intro hRf (And.intro hl64 hbf))
          have HW := Lib.hid (And.intro hW hR)
          clear hRf hbf hp hW hR
          go_wp2_with (first
            | (refine opVal rfl (ex_ld64 rfl rfl HW.out.1 HF.out.2.1) ?_)
            | (refine opSkip rfl (ex_st64 rfl rfl rfl HW.out.2 rfl HF.out.2.1 (u32s_one _)) ?_))
          exact bodyPost_ret (results_arr rfl _ rfl HF.out.1 HF.out.2.1) rfl ⟨rfl, HF.out.2.2⟩
end Go.Proofs.YtjbelkpmbbkhgaaDoor

