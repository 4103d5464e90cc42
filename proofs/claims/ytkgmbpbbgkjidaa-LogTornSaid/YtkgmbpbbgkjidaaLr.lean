/- Records: the document's one and Scan. -/
import Derived.Test.YtkgmbpbbgkjidaaLo
import Derived.Test.YtkgmbpbbgkjidaaCrcS
import Derived.Test.YtkgmbpbbgkjidaaAppS
import Derived.Test.YtkgmbpbbgkjidaaNumTake2
namespace Go.Proofs.Ytkgmbpbbgkjidaa
open Go.RowKit Go.Proofs.Ytkgmbpbbgkjidaa.Pl Go.Proofs.Ytkgmbpbbgkjidaa.Pc

theorem RTake_t (w : World) (B : Nat) (A : Option Addr) (n c : Nat) (l : List UInt8) (v k e0 : Nat) (hb : Sl w B A (bv l)) (h0 : n = l.length) (hc : n ≤ c) (hn : c ≤ maxLen) (h : takeS l = (v, k, e0)) :
    Calls Try.prog 63 #[.slice A n c] w fun e w' => e = .returned (.tuple #[.int .u64 (v : Int), .int .i64 (k : Int), .int .i64 (e0 : Int)]) ∧ w = w' := by
  subst h0
  have := RefTake_any w B A c l hb hc hn
  rw [h] at this
  exact this
theorem oneR_eq {b : List UInt8} {v k : Nat} (h : takeS b = (v, k, 0)) (hv : v ≤ 65536) (hl : k + v + 4 ≤ b.length) :
    Lg.oneR b = if big ((b.drop (k + v)).take 4) = (sum (b.take k ++ (b.drop k).take v)).toNat then some ((b.drop k).take v, k + v + 4) else none := by
  have e1 : (b.take (k + v + 4)).length - 4 = k + v := by rw [List.length_take]; omega
  have e2 : (b.take (k + v + 4)).take (k + v) = b.take (k + v) := by rw [List.take_take, Nat.min_eq_left (by omega)]
  have e3 : (b.take (k + v + 4)).drop (k + v) = (b.drop (k + v)).take 4 := by rw [List.drop_take, show k + v + 4 - (k + v) = 4 by omega]
  have e4 : b.take (k + v) = b.take k ++ (b.drop k).take v := by rw [List.take_add]
  have e5 : (b.take (k + v)).drop k = (b.drop k).take v := by rw [List.drop_take, show k + v - k = v by omega]
  unfold Lg.oneR
  rw [h]
  simp only
  rw [if_pos ⟨trivial, hv, hl⟩]
  unfold openS
  rw [if_neg (by rw [List.length_take]; omega), e1, e2, e3]
  by_cases hq : big ((b.drop (k + v)).take 4) = (sum (b.take (k + v))).toNat
  · rw [if_pos hq, if_pos (by rw [← e4]; exact hq)]
    simp only [e5]
  · rw [if_neg hq, if_neg (by rw [← e4]; exact hq)]
def OnePostR (w : World) (o : Option (List UInt8 × Nat)) (e : Ending) (w' : World) : Prop :=
  match o with
  | none => e = .returned (.tuple #[.slice none 0 0, .int .i64 0]) ∧ Below w.heap.size w w'
  | some (x, k) => ∃ A c, e = .returned (.tuple #[.slice A x.length c, .int .i64 (k : Int)]) ∧ OwnB w' w.heap.size (.slice A x.length c) x ∧ Below w.heap.size w w'
set_option maxRecDepth 100000 in
set_option maxHeartbeats 3200000 in
theorem ROne_any (w : World) (A : Option Addr) (n c : Nat) (b : List UInt8) (hb : Sl w w.heap.size A (bv b)) (h0 : n = b.length) (hc : n ≤ c) (hm : c ≤ maxLen) (hbl : b.length ≤ 140737488355328) :
    Calls Try.prog 56 #[.slice A n c] w (OnePostR w (Lg.oneR b)) := by
  obtain ⟨v, k, e0, ht⟩ : ∃ v k e0, takeS b = (v, k, e0) := ⟨_, _, _, rfl⟩
  have HT := Lib.hid (RTake_t w w.heap.size A n c b v k e0 hb h0 hc hm ht)
  have hle : k ≤ 10 ∧ (e0 = 0 → 1 ≤ k) := by
    by_cases h : (takeS b).2.2 = 0
    · have := takeS_ok _ h; rw [ht] at this; exact ⟨this.2.1, fun _ => this.1⟩
    · have := takeS_bad _ h; rw [ht] at this h; simp only at this h; exact ⟨by omega, fun h' => absurd h' h⟩
  have hlt := takeS_lt b
  rw [ht] at hlt
  simp only at hlt
  have hnone : ¬ (e0 = 0 ∧ v ≤ 65536 ∧ k + v + 4 ≤ b.length) → Lg.oneR b = none := fun h => by
    unfold Lg.oneR
    rw [ht]
    simp only
    rw [if_neg h]
  by_cases he : e0 = 0
  · subst he
    by_cases hv : v ≤ 65536
    · have q1 : decide (65536 < (v : Int)) = false := by rw [decide_eq_false_iff_not]; omega
      have wv : IntKind.i64.wrap (v : Int) = (v : Int) := by rw [IntKind.wrap_i64]; omega
      by_cases hl : k + v + 4 ≤ b.length
      · have q2 : decide ((n : Int) < (k : Int) + (v : Int) + 4) = false := by rw [decide_eq_false_iff_not]; omega
        rw [oneR_eq ht hv hl]
        obtain ⟨M, hM⟩ : ∃ M, k + v = M := ⟨_, rfl⟩
        have hm63 : c ≤ 9223372036854775807 := by simpa [maxLen] using hm
        have sk : Sl w w.heap.size A (bv (b.take k)) := by have := hb.tk k; rw [bv_take] at this; exact this
        have sp : Sl w w.heap.size (A.map (·.add k)) (bv ((b.drop k).take v)) := by
          have := (hb.cut k c (by simpa [← h0] using hc)).tk v
          rw [if_neg (by omega), bv_drop, bv_take] at this
          exact this
        have sB : Sl w w.heap.size (A.map (·.add (k + v))) (bv ((b.drop (k + v)).take 4)) := by
          have := (hb.cut (k + v) c (by simpa [← h0] using hc)).tk 4
          rw [if_neg (by omega), bv_drop, bv_take] at this
          exact this
        have lk : (b.take k).length = k := by rw [List.length_take]; omega
        have lp : ((b.drop k).take v).length = v := by rw [List.length_take, List.length_drop]; omega
        have lB : ((b.drop (k + v)).take 4).length = 4 := by rw [List.length_take, List.length_drop]; omega
        have vk : SlcIs w (.slice A k c) (b.take k) := ⟨A, c, by rw [lk], sk, by omega, hm⟩
        have vp : SlcIs w (.slice (A.map (·.add k)) v (c - k)) ((b.drop k).take v) := ⟨_, c - k, by rw [lp], sp, by omega, by omega⟩
        have hM2 := (Mat.two w 25 _ _ _ _ vk vp).drew
        have hsum := fun h => RefSum_any ((w.alloc (.cells #[.slice A k c, .slice (A.map (·.add k)) v (c - k)] 25)).drew) (some ⟨w.heap.size, 0, none⟩) 2 2 [b.take k, (b.drop k).take v] h rfl (by simp [maxLen])
        have hfl : [b.take k, (b.drop k).take v].flatten = b.take k ++ (b.drop k).take v := by simp
        rw [hfl] at hsum
        have hBg := fun W (hW : KB w.heap W) => RefBig_lit W w.heap.size (A.map (·.add (k + v))) 4 (c - (k + v)) ((b.drop (k + v)).take 4) _ (sB.kb hW) lB.symm (by omega) (by omega) rfl
        have hN := bv_lt (sum (b.take k ++ (b.drop k).take v))
        have hwr : IntKind.u64.wrap ((sum (b.take k ++ (b.drop k).take v)).toNat : Int) = ((sum (b.take k ++ (b.drop k).take v)).toNat : Int) := by rw [IntKind.wrap_u64]; omega
        obtain ⟨S, hS⟩ : ∃ S, (sum (b.take k ++ (b.drop k).take v)).toNat = S := ⟨_, rfl⟩
        obtain ⟨G, hG⟩ : ∃ G, big ((b.drop (k + v)).take 4) = G := ⟨_, rfl⟩
        rw [hS] at hsum hN hwr ⊢
        rw [hG] at hBg ⊢
        obtain ⟨p, hp⟩ : ∃ p, (b.drop k).take v = p := ⟨_, rfl⟩
        rw [hp] at sp lp hM2 hsum ⊢
        have HP := Lib.hid lp
        have HS := Lib.hid hsum
        have HB := Lib.hid hBg
        rw [hM] at HB
        have k1 : (k : Int) + (v : Int) = (M : Int) := by omega
        have k2 : (M : Int) ≤ (c : Int) := by omega
        have k3 : (k : Int) ≤ (M : Int) := by omega
        have k4 : (M : Int) + 4 ≤ (c : Int) := by omega
        have k5 : (k : Int) ≤ (c : Int) := by omega
        have kMk : M - k = v := by omega
        have kck : c ≠ k := by omega
        have kcM : c ≠ M := by omega
        have k6 : (M : Int) + 4 ≤ (n : Int) := by omega
        have k7 : (k : Int) ≤ (n : Int) := by omega
        have k8 : (M : Int) ≤ (n : Int) := by omega
        obtain ⟨N, hN4⟩ : ∃ N, M + 4 = N := ⟨_, rfl⟩
        have kw1 : IntKind.i64.wrap (M : Int) = (M : Int) := by rw [IntKind.wrap_i64]; omega
        have kw2 : IntKind.i64.wrap ((M : Int) + 4) = (N : Int) := by rw [IntKind.wrap_i64]; omega
        have kN1 : (M : Int) + 4 = (N : Int) := by omega
        have kN2 : (N : Int) ≤ (c : Int) := by omega
        have kN3 : (M : Int) ≤ max (N : Int) 0 := by omega
        have kN4 : N - M = 4 := by omega
        have kw3 : IntKind.i64.wrap (N : Int) = (N : Int) := by rw [IntKind.wrap_i64]; omega
        have kMN : M ≤ N := by omega
        have HN4 := Lib.hid hN4
        clear hsum hBg lk lB vk vp hfl hS hG hl h0 sk sB hb hM lp hp hnone ht hN4 k4
        by_cases heq : G = S
        · rw [if_pos heq]
          have hne : (((G : Nat) : Int) != (S : Int)) = false := by simp; omega
          clear heq
          go_enter Try.func56, Try.ntmps56
          go_wp2_with fail
          refine HT.out.mono ?_
          rintro e w' ⟨rfl, rfl⟩
          go_wp2_with fail
          refine bstart (by kernel_rfl) ?_
          refine btake 0 (oi := _) (v := ?_) (by simp only [List.getElem?_toArray, List.getElem?_cons_zero]; rfl) (by kernel_rfl) (by exact fun _ _ _ h => h) (by first | assumption | exact KB.refl _) (.inl ⟨by rfl, fun W hW => ?_⟩) ?_; rotate_left
          · (go_simp; first | done | with_reducible rfl)
          try simp only [Act.put, List.setIfInBounds_toArray, List.set_cons_zero, List.set_cons_succ]
          refine btake 1 (oi := _) (v := ?_) (by simp only [List.getElem?_toArray, List.getElem?_cons_succ, List.getElem?_cons_zero]; rfl) (by kernel_rfl) (by exact fun _ _ _ h => h) (by first | assumption | exact KB.refl _) (.inl ⟨by rfl, fun W hW => ?_⟩) ?_; rotate_left
          · (go_simp; first | done | with_reducible rfl)
          try simp only [Act.put, List.setIfInBounds_toArray, List.set_cons_zero, List.set_cons_succ]
          refine btake 2 (oi := _) (v := ?_) (by simp only [List.getElem?_toArray, List.getElem?_cons_succ, List.getElem?_cons_zero]; rfl) (by kernel_rfl) (by exact fun _ _ _ h => h) (by first | assumption | exact KB.refl _) (.inl ⟨by rfl, fun W hW => ?_⟩) ?_; rotate_left
          · (go_simp; first | done | with_reducible rfl)
          try simp only [Act.put, List.setIfInBounds_toArray, List.set_cons_zero, List.set_cons_succ]
          refine btake 3 (oi := _) (v := ?_) (by simp only [List.getElem?_toArray, List.getElem?_cons_succ, List.getElem?_cons_zero]; rfl) (by kernel_rfl) (by exact fun _ _ _ h => h) (by first | assumption | exact KB.refl _) (.inl ⟨by rfl, fun W hW => ?_⟩) ?_; rotate_left
          · (go_simp; first | done | with_reducible rfl)
          try simp only [Act.put, List.setIfInBounds_toArray, List.set_cons_zero, List.set_cons_succ]
          refine btake 4 (oi := _) (v := ?_) (by simp only [List.getElem?_toArray, List.getElem?_cons_succ, List.getElem?_cons_zero]; rfl) (by kernel_rfl) (by exact fun _ _ _ h => h) (by first | assumption | exact KB.refl _) (.inl ⟨by rfl, fun W hW => ?_⟩) ?_; rotate_left
          · (go_simp; first | done | with_reducible rfl)
          try simp only [Act.put, List.setIfInBounds_toArray, List.set_cons_zero, List.set_cons_succ]
          refine btake 5 (oi := _) (v := ?_) (by simp only [List.getElem?_toArray, List.getElem?_cons_succ, List.getElem?_cons_zero]; rfl) (by kernel_rfl) (by exact fun _ _ _ h => h) (by first | assumption | exact KB.refl _) (.inl ⟨by rfl, fun W hW => ?_⟩) ?_; rotate_left
          · (go_simp; first | done | with_reducible rfl)
          try simp only [Act.put, List.setIfInBounds_toArray, List.set_cons_zero, List.set_cons_succ]
          refine btake 6 (oi := _) (v := ?_) (by simp only [List.getElem?_toArray, List.getElem?_cons_succ, List.getElem?_cons_zero]; rfl) (by kernel_rfl) (by exact fun _ _ _ h => h) (by first | assumption | exact KB.refl _) (.inl ⟨by rfl, fun W hW => ?_⟩) ?_; rotate_left
          · (go_simp; first | done | with_reducible rfl)
          try simp only [Act.put, List.setIfInBounds_toArray, List.set_cons_zero, List.set_cons_succ]
          refine btake 7 (oi := _) (v := ?_) (by simp only [List.getElem?_toArray, List.getElem?_cons_succ, List.getElem?_cons_zero]; rfl) (by kernel_rfl) (by exact fun _ _ _ h => h) (by first | assumption | exact KB.refl _) (.inl ⟨by rfl, fun W hW => ?_⟩) ?_; rotate_left
          · (go_simp; first | done | with_reducible rfl)
          try simp only [Act.put, List.setIfInBounds_toArray, List.set_cons_zero, List.set_cons_succ]
          refine btake 8 (oi := _) (v := ?_) (by simp only [List.getElem?_toArray, List.getElem?_cons_succ, List.getElem?_cons_zero]; rfl) (by kernel_rfl) (by exact fun _ _ _ h => h) (by first | assumption | exact KB.refl _) (.inl ⟨by rfl, fun W hW => ?_⟩) ?_; rotate_left
          · (go_simp; first | done | with_reducible rfl)
          try simp only [Act.put, List.setIfInBounds_toArray, List.set_cons_zero, List.set_cons_succ]
          refine btake 9 (oi := _) (v := ?_) (by simp only [List.getElem?_toArray, List.getElem?_cons_succ, List.getElem?_cons_zero]; rfl) (by kernel_rfl) (by exact fun _ _ _ h => h) (by first | assumption | exact KB.refl _) (.inl ⟨by rfl, fun W hW => ?_⟩) ?_; rotate_left
          · (go_simp; first | done | with_reducible rfl)
          try simp only [Act.put, List.setIfInBounds_toArray, List.set_cons_zero, List.set_cons_succ]
          refine btake 10 (oi := _) (v := ?_) (by simp only [List.getElem?_toArray, List.getElem?_cons_succ, List.getElem?_cons_zero]; rfl) (by kernel_rfl) (by exact fun _ _ _ h => h) (by first | assumption | exact KB.refl _) (.inl ⟨by rfl, fun W hW => ?_⟩) ?_; rotate_left
          · (go_simp; first | done | with_reducible rfl)
          try simp only [Act.put, List.setIfInBounds_toArray, List.set_cons_zero, List.set_cons_succ]
          -- 11: newsreel/newsreelref1.Big
          refine bquiet 11 (oi := _) ?_ (by simp only [List.getElem?_toArray, List.getElem?_cons_succ, List.getElem?_cons_zero]; rfl) (by kernel_rfl) (by exact fun _ _ _ h => h) (by first | assumption | exact KB.refl _) (by rfl) (fun W hW => by go_simp; first | done | exact ⟨rfl, rfl⟩ | rfl) (fun W hW => ?_) ?_; rotate_left
          · exact HB.out W hW
          try simp only [Act.put, List.setIfInBounds_toArray, List.set_cons_zero, List.set_cons_succ]
          refine btake 12 (oi := _) (v := ?_) (by simp only [List.getElem?_toArray, List.getElem?_cons_succ, List.getElem?_cons_zero]; rfl) (by kernel_rfl) (by exact fun _ _ _ h => h) (by first | assumption | exact KB.refl _) (.inl ⟨by rfl, fun W hW => ?_⟩) ?_; rotate_left
          · (go_simp; first | done | with_reducible rfl)
          try simp only [Act.put, List.setIfInBounds_toArray, List.set_cons_zero, List.set_cons_succ]
          refine btake 13 (oi := _) (v := ?_) (by simp only [List.getElem?_toArray, List.getElem?_cons_succ, List.getElem?_cons_zero]; rfl) (by kernel_rfl) (by exact fun _ _ _ h => h) (by first | assumption | exact KB.refl _) (.inl ⟨by rfl, fun W hW => ?_⟩) ?_; rotate_left
          · (go_simp; first | done | with_reducible rfl)
          try simp only [Act.put, List.setIfInBounds_toArray, List.set_cons_zero, List.set_cons_succ]
          refine btake 14 (oi := _) (v := ?_) (by simp only [List.getElem?_toArray, List.getElem?_cons_succ, List.getElem?_cons_zero]; rfl) (by kernel_rfl) (by exact fun _ _ _ h => h) (by first | assumption | exact KB.refl _) (.inl ⟨by rfl, fun W hW => ?_⟩) ?_; rotate_left
          · (go_simp; first | done | with_reducible rfl)
          try simp only [Act.put, List.setIfInBounds_toArray, List.set_cons_zero, List.set_cons_succ]
          refine btake 15 (oi := _) (v := ?_) (by simp only [List.getElem?_toArray, List.getElem?_cons_succ, List.getElem?_cons_zero]; rfl) (by kernel_rfl) (by exact fun _ _ _ h => h) (by first | assumption | exact KB.refl _) (.inl ⟨by rfl, fun W hW => ?_⟩) ?_; rotate_left
          · (go_simp; first | done | with_reducible rfl)
          try simp only [Act.put, List.setIfInBounds_toArray, List.set_cons_zero, List.set_cons_succ]
          -- 16: Op.buildSlice 22 2 #[(0, Operand.tmp 51), (1, Operand.tmp 52)]
          refine bop 16 (o := _) (by simp only [List.getElem?_toArray, List.getElem?_cons_succ, List.getElem?_cons_zero]; rfl) (by kernel_rfl) (by first | assumption | exact KB.refl _) (by rfl) (fun K hK => ?_)
          go_simp
          have hkb : KB w.heap (w.alloc (.cells #[.slice A k c, .slice (A.map (·.add k)) v (c - k)] 25)).drew := KB.alloc w _
          refine hK.out _ _ hkb ?_; clear hK K
          try simp only [Act.put, List.setIfInBounds_toArray, List.set_cons_zero, List.set_cons_succ]
          -- 17: newsreel/newsreelref1.Sum
          refine bop 17 (o := _) (by simp only [List.getElem?_toArray, List.getElem?_cons_succ, List.getElem?_cons_zero]; rfl) (by kernel_rfl) (by first | assumption | exact KB.refl _) (by rfl) (fun K hK => ?_)
          go_simp
          refine (HS.out hM2).mono ?_
          rintro e w3 ⟨rfl, h3⟩
          have hkb := KB.of h3
          refine hK.out _ _ hkb ?_; clear hK K
          try simp only [Act.put, List.setIfInBounds_toArray, List.set_cons_zero, List.set_cons_succ]
          refine btake 18 (oi := _) (v := ?_) (by simp only [List.getElem?_toArray, List.getElem?_cons_succ, List.getElem?_cons_zero]; rfl) (by kernel_rfl) (by exact fun _ _ _ h => h) (by first | assumption | exact KB.refl _) (.inl ⟨by rfl, fun W hW => ?_⟩) ?_; rotate_left
          · (go_simp; first | done | with_reducible rfl)
          try simp only [Act.put, List.setIfInBounds_toArray, List.set_cons_zero, List.set_cons_succ]
          refine btake 19 (oi := _) (v := ?_) (by simp only [List.getElem?_toArray, List.getElem?_cons_succ, List.getElem?_cons_zero]; rfl) (by kernel_rfl) (by exact fun _ _ _ h => h) (by first | assumption | exact KB.refl _) (.inl ⟨by rfl, fun W hW => ?_⟩) ?_; rotate_left
          · (go_simp; first | done | with_reducible rfl)
          try simp only [Act.put, List.setIfInBounds_toArray, List.set_cons_zero, List.set_cons_succ]
          refine bdone (by kernel_rfl) ?_
          have hb3' := bstep (balloc (Below.refl w.heap.size w) (.cells #[.slice A k c, .slice (A.map (·.add k)) v (c - k)] 25)).drew h3
          have sp3 := (sp.below hb3').more hb3'.size
          go_wp2_with (at_builtin; go_loud (refine app (k := p) rfl rfl (OwnB.nil w3 w3.heap.size) sp3 HP.out.symm rfl rfl (by have := HP.out; simp; omega) (Nat.le_refl _) ?_; intro s4 w4 h4 hg4 hat4))
          have h5 : Below w3.heap.size w3 w4 := below_of_grown hg4 (by simp [Value.ownBlock]) (Nat.le_refl _)
          rw [List.nil_append] at h4
          obtain ⟨A4, c4, rfl, _⟩ := h4.form
          refine bodyPost_ret (v := .tuple #[.slice A4 p.length c4, .int .i64 (N : Int)]) (by simp [results, Try.results56, go_sem]) rfl ⟨A4, c4, by rw [show ((k + v + 4 : Nat) : Int) = (N : Int) by have := HN4.out; omega], h4.base_le hb3'.size, bstep hb3' h5⟩
        · rw [if_neg heq]
          have hne : (((G : Nat) : Int) != (S : Int)) = true := by simp; omega
          clear heq
          go_enter Try.func56, Try.ntmps56
          go_wp2_with fail
          refine HT.out.mono ?_
          rintro e w' ⟨rfl, rfl⟩
          go_wp2_with fail
          refine bstart (by kernel_rfl) ?_
          refine btake 0 (oi := _) (v := ?_) (by simp only [List.getElem?_toArray, List.getElem?_cons_zero]; rfl) (by kernel_rfl) (by exact fun _ _ _ h => h) (by first | assumption | exact KB.refl _) (.inl ⟨by rfl, fun W hW => ?_⟩) ?_; rotate_left
          · (go_simp; first | done | with_reducible rfl)
          try simp only [Act.put, List.setIfInBounds_toArray, List.set_cons_zero, List.set_cons_succ]
          refine btake 1 (oi := _) (v := ?_) (by simp only [List.getElem?_toArray, List.getElem?_cons_succ, List.getElem?_cons_zero]; rfl) (by kernel_rfl) (by exact fun _ _ _ h => h) (by first | assumption | exact KB.refl _) (.inl ⟨by rfl, fun W hW => ?_⟩) ?_; rotate_left
          · (go_simp; first | done | with_reducible rfl)
          try simp only [Act.put, List.setIfInBounds_toArray, List.set_cons_zero, List.set_cons_succ]
          refine btake 2 (oi := _) (v := ?_) (by simp only [List.getElem?_toArray, List.getElem?_cons_succ, List.getElem?_cons_zero]; rfl) (by kernel_rfl) (by exact fun _ _ _ h => h) (by first | assumption | exact KB.refl _) (.inl ⟨by rfl, fun W hW => ?_⟩) ?_; rotate_left
          · (go_simp; first | done | with_reducible rfl)
          try simp only [Act.put, List.setIfInBounds_toArray, List.set_cons_zero, List.set_cons_succ]
          refine btake 3 (oi := _) (v := ?_) (by simp only [List.getElem?_toArray, List.getElem?_cons_succ, List.getElem?_cons_zero]; rfl) (by kernel_rfl) (by exact fun _ _ _ h => h) (by first | assumption | exact KB.refl _) (.inl ⟨by rfl, fun W hW => ?_⟩) ?_; rotate_left
          · (go_simp; first | done | with_reducible rfl)
          try simp only [Act.put, List.setIfInBounds_toArray, List.set_cons_zero, List.set_cons_succ]
          refine btake 4 (oi := _) (v := ?_) (by simp only [List.getElem?_toArray, List.getElem?_cons_succ, List.getElem?_cons_zero]; rfl) (by kernel_rfl) (by exact fun _ _ _ h => h) (by first | assumption | exact KB.refl _) (.inl ⟨by rfl, fun W hW => ?_⟩) ?_; rotate_left
          · (go_simp; first | done | with_reducible rfl)
          try simp only [Act.put, List.setIfInBounds_toArray, List.set_cons_zero, List.set_cons_succ]
          refine btake 5 (oi := _) (v := ?_) (by simp only [List.getElem?_toArray, List.getElem?_cons_succ, List.getElem?_cons_zero]; rfl) (by kernel_rfl) (by exact fun _ _ _ h => h) (by first | assumption | exact KB.refl _) (.inl ⟨by rfl, fun W hW => ?_⟩) ?_; rotate_left
          · (go_simp; first | done | with_reducible rfl)
          try simp only [Act.put, List.setIfInBounds_toArray, List.set_cons_zero, List.set_cons_succ]
          refine btake 6 (oi := _) (v := ?_) (by simp only [List.getElem?_toArray, List.getElem?_cons_succ, List.getElem?_cons_zero]; rfl) (by kernel_rfl) (by exact fun _ _ _ h => h) (by first | assumption | exact KB.refl _) (.inl ⟨by rfl, fun W hW => ?_⟩) ?_; rotate_left
          · (go_simp; first | done | with_reducible rfl)
          try simp only [Act.put, List.setIfInBounds_toArray, List.set_cons_zero, List.set_cons_succ]
          refine btake 7 (oi := _) (v := ?_) (by simp only [List.getElem?_toArray, List.getElem?_cons_succ, List.getElem?_cons_zero]; rfl) (by kernel_rfl) (by exact fun _ _ _ h => h) (by first | assumption | exact KB.refl _) (.inl ⟨by rfl, fun W hW => ?_⟩) ?_; rotate_left
          · (go_simp; first | done | with_reducible rfl)
          try simp only [Act.put, List.setIfInBounds_toArray, List.set_cons_zero, List.set_cons_succ]
          refine btake 8 (oi := _) (v := ?_) (by simp only [List.getElem?_toArray, List.getElem?_cons_succ, List.getElem?_cons_zero]; rfl) (by kernel_rfl) (by exact fun _ _ _ h => h) (by first | assumption | exact KB.refl _) (.inl ⟨by rfl, fun W hW => ?_⟩) ?_; rotate_left
          · (go_simp; first | done | with_reducible rfl)
          try simp only [Act.put, List.setIfInBounds_toArray, List.set_cons_zero, List.set_cons_succ]
          refine btake 9 (oi := _) (v := ?_) (by simp only [List.getElem?_toArray, List.getElem?_cons_succ, List.getElem?_cons_zero]; rfl) (by kernel_rfl) (by exact fun _ _ _ h => h) (by first | assumption | exact KB.refl _) (.inl ⟨by rfl, fun W hW => ?_⟩) ?_; rotate_left
          · (go_simp; first | done | with_reducible rfl)
          try simp only [Act.put, List.setIfInBounds_toArray, List.set_cons_zero, List.set_cons_succ]
          refine btake 10 (oi := _) (v := ?_) (by simp only [List.getElem?_toArray, List.getElem?_cons_succ, List.getElem?_cons_zero]; rfl) (by kernel_rfl) (by exact fun _ _ _ h => h) (by first | assumption | exact KB.refl _) (.inl ⟨by rfl, fun W hW => ?_⟩) ?_; rotate_left
          · (go_simp; first | done | with_reducible rfl)
          try simp only [Act.put, List.setIfInBounds_toArray, List.set_cons_zero, List.set_cons_succ]
          -- 11: newsreel/newsreelref1.Big
          refine bquiet 11 (oi := _) ?_ (by simp only [List.getElem?_toArray, List.getElem?_cons_succ, List.getElem?_cons_zero]; rfl) (by kernel_rfl) (by exact fun _ _ _ h => h) (by first | assumption | exact KB.refl _) (by rfl) (fun W hW => by go_simp; first | done | exact ⟨rfl, rfl⟩ | rfl) (fun W hW => ?_) ?_; rotate_left
          · exact HB.out W hW
          try simp only [Act.put, List.setIfInBounds_toArray, List.set_cons_zero, List.set_cons_succ]
          refine btake 12 (oi := _) (v := ?_) (by simp only [List.getElem?_toArray, List.getElem?_cons_succ, List.getElem?_cons_zero]; rfl) (by kernel_rfl) (by exact fun _ _ _ h => h) (by first | assumption | exact KB.refl _) (.inl ⟨by rfl, fun W hW => ?_⟩) ?_; rotate_left
          · (go_simp; first | done | with_reducible rfl)
          try simp only [Act.put, List.setIfInBounds_toArray, List.set_cons_zero, List.set_cons_succ]
          refine btake 13 (oi := _) (v := ?_) (by simp only [List.getElem?_toArray, List.getElem?_cons_succ, List.getElem?_cons_zero]; rfl) (by kernel_rfl) (by exact fun _ _ _ h => h) (by first | assumption | exact KB.refl _) (.inl ⟨by rfl, fun W hW => ?_⟩) ?_; rotate_left
          · (go_simp; first | done | with_reducible rfl)
          try simp only [Act.put, List.setIfInBounds_toArray, List.set_cons_zero, List.set_cons_succ]
          refine btake 14 (oi := _) (v := ?_) (by simp only [List.getElem?_toArray, List.getElem?_cons_succ, List.getElem?_cons_zero]; rfl) (by kernel_rfl) (by exact fun _ _ _ h => h) (by first | assumption | exact KB.refl _) (.inl ⟨by rfl, fun W hW => ?_⟩) ?_; rotate_left
          · (go_simp; first | done | with_reducible rfl)
          try simp only [Act.put, List.setIfInBounds_toArray, List.set_cons_zero, List.set_cons_succ]
          refine btake 15 (oi := _) (v := ?_) (by simp only [List.getElem?_toArray, List.getElem?_cons_succ, List.getElem?_cons_zero]; rfl) (by kernel_rfl) (by exact fun _ _ _ h => h) (by first | assumption | exact KB.refl _) (.inl ⟨by rfl, fun W hW => ?_⟩) ?_; rotate_left
          · (go_simp; first | done | with_reducible rfl)
          try simp only [Act.put, List.setIfInBounds_toArray, List.set_cons_zero, List.set_cons_succ]
          -- 16: Op.buildSlice 22 2 #[(0, Operand.tmp 51), (1, Operand.tmp 52)]
          refine bop 16 (o := _) (by simp only [List.getElem?_toArray, List.getElem?_cons_succ, List.getElem?_cons_zero]; rfl) (by kernel_rfl) (by first | assumption | exact KB.refl _) (by rfl) (fun K hK => ?_)
          go_simp
          have hkb : KB w.heap (w.alloc (.cells #[.slice A k c, .slice (A.map (·.add k)) v (c - k)] 25)).drew := KB.alloc w _
          refine hK.out _ _ hkb ?_; clear hK K
          try simp only [Act.put, List.setIfInBounds_toArray, List.set_cons_zero, List.set_cons_succ]
          -- 17: newsreel/newsreelref1.Sum
          refine bop 17 (o := _) (by simp only [List.getElem?_toArray, List.getElem?_cons_succ, List.getElem?_cons_zero]; rfl) (by kernel_rfl) (by first | assumption | exact KB.refl _) (by rfl) (fun K hK => ?_)
          go_simp
          refine (HS.out hM2).mono ?_
          rintro e w3 ⟨rfl, h3⟩
          have hkb := KB.of h3
          refine hK.out _ _ hkb ?_; clear hK K
          try simp only [Act.put, List.setIfInBounds_toArray, List.set_cons_zero, List.set_cons_succ]
          refine btake 18 (oi := _) (v := ?_) (by simp only [List.getElem?_toArray, List.getElem?_cons_succ, List.getElem?_cons_zero]; rfl) (by kernel_rfl) (by exact fun _ _ _ h => h) (by first | assumption | exact KB.refl _) (.inl ⟨by rfl, fun W hW => ?_⟩) ?_; rotate_left
          · (go_simp; first | done | with_reducible rfl)
          try simp only [Act.put, List.setIfInBounds_toArray, List.set_cons_zero, List.set_cons_succ]
          refine btake 19 (oi := _) (v := ?_) (by simp only [List.getElem?_toArray, List.getElem?_cons_succ, List.getElem?_cons_zero]; rfl) (by kernel_rfl) (by exact fun _ _ _ h => h) (by first | assumption | exact KB.refl _) (.inl ⟨by rfl, fun W hW => ?_⟩) ?_; rotate_left
          · (go_simp; first | done | with_reducible rfl)
          try simp only [Act.put, List.setIfInBounds_toArray, List.set_cons_zero, List.set_cons_succ]
          refine bdone (by kernel_rfl) ?_
          have hb3' := bstep (balloc (Below.refl w.heap.size w) (.cells #[.slice A k c, .slice (A.map (·.add k)) v (c - k)] 25)).drew h3
          go_wp2_with fail
          exact bodyPost_ret (v := .tuple #[.slice none 0 0, .int .i64 0]) (by simp [results, Try.results56, go_sem]) rfl ⟨rfl, hb3'⟩
      · rw [hnone (fun h => hl h.2.2)]
        have q2 : decide ((n : Int) < (k : Int) + (v : Int) + 4) = true := by rw [decide_eq_true_eq]; omega
        clear h0 hnone
        go_enter Try.func56, Try.ntmps56
        go_wp2_with fail
        refine HT.out.mono ?_
        rintro e w' ⟨rfl, rfl⟩
        go_wp2_with fail
        exact bodyPost_ret (v := .tuple #[.slice none 0 0, .int .i64 0]) (by simp [results, Try.results56, go_sem]) rfl ⟨rfl, Below.refl _ _⟩
    · rw [hnone (fun h => hv h.2.1)]
      have q1 : decide (65536 < (v : Int)) = true := by rw [decide_eq_true_eq]; omega
      clear h0 hnone
      go_enter Try.func56, Try.ntmps56
      go_wp2_with fail
      refine HT.out.mono ?_
      rintro e w' ⟨rfl, rfl⟩
      go_wp2_with fail
      exact bodyPost_ret (v := .tuple #[.slice none 0 0, .int .i64 0]) (by simp [results, Try.results56, go_sem]) rfl ⟨rfl, Below.refl _ _⟩
  · rw [hnone (fun h => he h.1)]
    have q0 : ((e0 : Int) != 0) = true := by simp; omega
    clear h0 hnone
    go_enter Try.func56, Try.ntmps56
    go_wp2_with fail
    refine HT.out.mono ?_
    rintro e w' ⟨rfl, rfl⟩
    go_wp2_with fail
    exact bodyPost_ret (v := .tuple #[.slice none 0 0, .int .i64 0]) (by simp [results, Try.results56, go_sem]) rfl ⟨rfl, Below.refl _ _⟩
end Go.Proofs.Ytkgmbpbbgkjidaa

