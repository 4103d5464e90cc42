/- Flags: maps.Keys. -/
import Derived.Test.YtjijhmeagjhfoaaFl
import Derived.Test.YtjijhmeagjhfoaaOpI
import Derived.Test.YtjijhmeagjhfoaaFlE
import Derived.RangeFuncBox
namespace Go.Proofs.Ytjijhmeagjhfoaa
open Go.RowKit Go.Maps Go.Shelf
attribute [local go_sem] Oper.semAt_some
set_option maxRecDepth 20000

theorem RangeIs.walk {P : Program} {t k e : TypeId} {α β : Type} [DecidableEq α] {T : MT P t k e α β} {w : World} {b r : Nat} {L : List (α × β)} {rem : List α} (h : RangeIs T w b r L rem) : ∃ o : Obj, w.heap[r]? = some o ∧ o.isWalk = true := by
  obtain ⟨_, es, left, cnt, h1, _⟩ := h
  exact h1.iter_walk
theorem RangeIs.rangeLeft_walks {P : Program} {t k e : TypeId} {α β : Type} [DecidableEq α] {T : MT P t k e α β} {w w' : World} {b r : Nat} {L : List (α × β)} {rem : List α} (h : RangeIs T w b r L rem) (hk : KeepsWalks w w') : w'.rangeLeft b r = w.rangeLeft b r := by
  obtain ⟨_, es, left, cnt, h1, _⟩ := h
  rw [h1.left_eq, (h1.of_walks hk).left_eq]
theorem key_s4 {w2 w3 w4 : World} {l : List UInt8} (hl : (bv l).length = 32) (hq3 : w3.heap.size = w2.heap.size + 1 ∧ At w3 w2.heap.size (bv z32) ∧ Below w2.heap.size w2 w3) (h : w4 = putL w3 w2.heap.size 0 (bv l)) : At w4 w2.heap.size (bv l) ∧ Below w2.heap.size w2 w4 := by
  subst h
  exact ⟨hq3.2.1.putL _ (by rw [hl]; rfl), below_putL _ 0 hq3.2.2 (Nat.le_refl _)⟩
theorem MapIs.grownIn {w W : World} {b : Nat} {L : List FE} (h : MapIs MF w b L) (hb : Below w.heap.size w W) : MapIs MF W b L := h.below hb
set_option maxHeartbeats 3200000 in
theorem keys1_in (n l Bm b : Nat) (L : List FE) (J : List ID → World → Prop)
    (hY : ∀ pre x W1, J pre W1 → pre.length < L.length → YieldAt Fence.wide (n - 1) Try.prog l #[x.v] W1 fun e W' => e = .returned (.bool true) ∧ J (pre ++ [x]) W' ∧ KeepsWalks W1 W')
    (W : World) (hJ : AbidesFrom W.heap.size J) (hm : W.cell? ⟨Bm, 0, none⟩ = some (.map (some b))) (hown : MapIs MF W b L) (h0 : J [] W) :
    CallsIn Fence.wide n Try.prog 40 #[.func (.yield l) #[] #[], .pointer (some ⟨Bm, 0, none⟩)] W fun e W' => (∃ v, e = .returned v) ∧ ∃ xs : List ID, xs.Perm (L.map (·.1)) ∧ J xs W' := by
  refine callsIn_of_wp Try.func40 rfl trivial ?_ rfl
  simp only [Try.ntmps40, List.size_toArray, List.length_cons, List.length_nil, Nat.reduceAdd, Nat.reduceSub, Array.replicate_succ, Array.replicate_zero, List.push_toArray, List.append_toArray, List.nil_append, List.cons_append]
  gi_wp2_with (first
    | (gi_at_range; refine mrangeI rfl rfl hown rfl ?_; intro w0 hrg0 hg0 hs0)
    | gi_in)
  go_frame
  gi_loopw [3] (fun _ wr => ∃ (rem xs : List ID), RangeIs MF wr b W.heap.size L rem ∧ (xs ++ rem).Perm (L.map (·.1)) ∧ J xs wr) (fun _ wr => wr.rangeLeft b W.heap.size)
  case atStart => exact ⟨_, [], hrg0, by simp, hJ [] W w0 none h0 hg0 (fun r e => by cases e)⟩
  case round =>
    obtain ⟨rem, xs, hrg, hp, hJs⟩ := hrel
    clear hrg0 hg0 hs0 hown hm h0
    have HP := Lib.hid hp
    clear hp
    gi_wp2_with (first
      | (gi_at_next; refine mnextI rfl rfl hrg rfl ?_ ?_)
      | gi_in)
    · intro hrem
      gi_wp2
      go_end0
      refine ⟨⟨_, rfl⟩, xs, ?_, hJs⟩
      have := HP.out
      rw [hrem, List.append_nil] at this
      exact this
    · intro c d w2 hc _ hlc hrg2 hg2 hs2 hen hlt
      have hJ2 : J xs w2 := hJ xs wr w2 (some W.heap.size) hJs hg2 (fun r e => by cases e; exact ⟨Nat.le_refl _, hrg.walk⟩)
      have hlen : xs.length < L.length := by
        have := HP.out.length_eq
        rw [List.length_append, List.length_map] at this
        have := List.length_pos_of_mem hc
        omega
      have hp2 : ((xs ++ [c]) ++ rem.erase c).Perm (L.map (·.1)) := by
        rw [List.append_assoc]
        exact ((List.Perm.append_left xs (List.perm_cons_erase hc).symm)).trans HP.out
      have HP2 := Lib.hid hp2
      obtain ⟨⟨⟨p, q, r⟩, on⟩, hd⟩ : ∃ d', d = d' := ⟨_, rfl⟩
      subst hd
      replace hen : (Instr.entry (.pointer (some ⟨W.heap.size, 0, none⟩))).run Try.prog w2 = .ok (.tuple #[.agg (bv c.l).toArray, .agg #[.int .i64 p, .int .i64 q, .int .i64 r, .bool on]]) w2 := hen
      have HLN := Lib.hid hlen
      clear hp2 hs2 hlc hlen
      have H32 := Lib.hid (show (bv c.l).length = 32 by rw [bv_len, c.h])
      have H1 := Lib.hid (fun x (hx : x ∈ bv c.l) => bv_one c.l x hx)
      gi_wp2_with (first
        | (refine opValIV rfl (by rfl) (ex_al32 rfl) ?_; intro w3 hw3; have hq3 := Lib.hid (eq_s2 hw3); clear hw3; simp only [Act.put, List.setIfInBounds_toArray, List.set_cons_zero, List.set_cons_succ])
        | (refine opSkipIV rfl (by rfl) (ex_st32 rfl rfl rfl hq3.out.2.1 (by rfl) H32.out (bv_one _)) ?_; intro w4 hw4; have hq4 := Lib.hid (key_s4 H32.out hq3.out hw4); clear hw4; simp only [Act.put])
        | (refine opValI rfl (by rfl) (ex_ld32 rfl rfl hq4.out.1 H32.out) ?_; simp only [Act.put, List.setIfInBounds_toArray, List.set_cons_zero, List.set_cons_succ]
           obtain ⟨fn, tmps, assign, body, hy, hR⟩ := hY xs c w4 (hJ xs w2 w4 none hJ2 (grown_of_below hq4.out.2 none) (fun r e => by cases e)) HLN.out
           replace hy : (Instr.yield l #[.agg (bv c.l).toArray]).run Try.prog w4 = .ok (.round l fn tmps assign body) w4 := hy)
        | gi_in)
      refine ⟨fun h => (by simp [Fence.wide] at h), hR.mono ?_⟩
      rintro e w5 ⟨rfl, hJ5, hk5⟩
      gi_wp2
      have hrg4 := hrg2.kept (grown_of_below hq4.out.2 none) (by simp) (by simp)
      have hrg5 := hrg4.of_walks hk5
      go_roundw
      case rel => exact ⟨_, _, hrg5, HP2.out, hJ5⟩
      case measure =>
        have e1 := hrg2.rangeLeft_below hq4.out.2
        have e2 := hrg4.rangeLeft_walks hk5
        rw [e2, e1]; exact hlt
theorem keys_in (n : Nat) (b : Nat) (w : World) :
    CallsIn Fence.wide n Try.prog 31 #[.map (some b)] w fun e w' => e = .returned (.func (.func 40) #[] #[.pointer (some ⟨w.heap.size, 0, none⟩)]) ∧ w' = w.alloc (.cells #[.map (some b)] 64) := by
  refine callsIn_of_wp Try.func31 rfl trivial ?_ rfl
  simp only [Try.ntmps31, List.size_toArray, List.length_cons, List.length_nil, Nat.reduceAdd, Nat.reduceSub, Array.replicate_succ, Array.replicate_zero, List.push_toArray, List.append_toArray, List.nil_append, List.cons_append]
  gi_wp2
  go_ret
  exact ⟨rfl, rfl⟩
theorem keys_gives (n : Nat) (b : Nat) (L : List FE) (w : World) (h : MapIs MF w b L) :
    SeqGives Fence.wide n Try.prog 40 #[.pointer (some ⟨w.heap.size, 0, none⟩)] ID.v (fun xs => xs.Perm (L.map (·.1))) L.length (w.alloc (.cells #[.map (some b)] 64)) := by
  intro l J W hW hJ hY h0
  have hm := (Boxed.new w 64 (.map (some b)))
  have hm2 : W.cell? ⟨w.heap.size, 0, none⟩ = some (.map (some b)) := (hW.cell (p := ⟨w.heap.size, 0, none⟩) (by simp)).trans hm.cell
  exact keys1_in n l w.heap.size b L J hY W hJ hm2 ((h.below ((Below.refl _ _).alloc (Nat.le_refl _) _)).below hW) h0
end Go.Proofs.Ytjijhmeagjhfoaa

