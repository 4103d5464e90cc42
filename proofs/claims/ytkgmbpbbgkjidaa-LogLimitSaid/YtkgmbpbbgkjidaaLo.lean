/- Records: Size, one; the document's Size. -/
import Derived.Test.YtkgmbpbbgkjidaaPLog
import Derived.Test.YtkgmbpbbgkjidaaFrP
import Derived.Test.YtkgmbpbbgkjidaaFrC
namespace Go.Proofs.Ytkgmbpbbgkjidaa
open Go.RowKit Go.Proofs.Ytkgmbpbbgkjidaa.Pl Go.Proofs.Ytkgmbpbbgkjidaa.Pc

def sizeN (n : Int) : Nat := (enc (heldN n)).length + heldN n + 4
theorem held_le (n : Int) : heldN n ≤ 65536 := by unfold heldN; (repeat' split) <;> omega
set_option maxRecDepth 100000 in
set_option maxHeartbeats 800000 in
theorem LSize_any (w : World) (n : Int) : Calls Try.prog 18 #[.int .i64 n] w fun e w' => e = .returned (.int .i64 (sizeN n : Int)) ∧ Below w.heap.size w w' := by
  obtain ⟨M, hmx, hmn⟩ := held_run n
  have hh := held_le n
  unfold sizeN
  obtain ⟨q, hq⟩ : ∃ q, heldN n = q := ⟨_, rfl⟩
  rw [hq] at hmn hh ⊢
  have hel := enc_len q
  have HS := Lib.hid (fun W => Size_any W q (by unfold U64; omega))
  obtain ⟨m, hm⟩ : ∃ m, (enc q).length = m := ⟨_, rfl⟩
  rw [hm] at HS hel ⊢
  have kw : IntKind.u64.wrap (q : Int) = (q : Int) := by rw [IntKind.wrap_u64]; omega
  clear hm hq
  go_enter Try.func18, Try.ntmps18
  go_wp2_with fail
  refine (HS.out _).mono ?_
  rintro e w1 ⟨rfl, b1⟩
  go_wp2_with fail
  go_ret
  exact ⟨by congr 2 <;> omega, b1⟩
set_option maxRecDepth 100000 in
set_option maxHeartbeats 800000 in
theorem RSize_any (w : World) (n : Int) : Calls Try.prog 19 #[.int .i64 n] w fun e w' => e = .returned (.int .i64 (sizeN n : Int)) ∧ Below w.heap.size w w' := by
  obtain ⟨M, hmx, hmn⟩ := held_run n
  have hh := held_le n
  unfold sizeN
  obtain ⟨q, hq⟩ : ∃ q, heldN n = q := ⟨_, rfl⟩
  rw [hq] at hmn hh ⊢
  have hel := enc_len q
  have bU := balloc (Below.refl w.heap.size w) (.cells #[.int .u64 (q : Int)] 33)
  have HS := Lib.hid (RefPut_one (w.alloc (.cells #[.int .u64 (q : Int)] 33)) none (some ⟨w.heap.size, 0, none⟩) 0 0 1 [] q rfl Sl.nil ((Sl.new w 33 #[.int .u64 (q : Int)] (0, 0)).more (Nat.le_of_eq (World.size_alloc _ _).symm)) (by unfold U64; omega) (by simp))
  rw [List.nil_append] at HS
  obtain ⟨E, hE⟩ : ∃ E, enc q = E := ⟨_, rfl⟩
  rw [hE] at HS hel ⊢
  obtain ⟨m, hm⟩ : ∃ m, E.length = m := ⟨_, rfl⟩
  rw [hm] at hel ⊢
  have HM := Lib.hid hm
  have kw : IntKind.u64.wrap (q : Int) = (q : Int) := by rw [IntKind.wrap_u64]; omega
  clear hm hq hE
  go_enter Try.func19, Try.ntmps19
  go_wp2_with fail
  refine HS.out.mono ?_
  rintro e w1 ⟨A1, c1, rfl, _, b1⟩
  rw [HM.out]
  go_wp2_with fail
  go_ret
  exact ⟨by congr 2 <;> omega, bU.trans (b1.mono bU.size)⟩
/-! one record -/
theorem open_lenL {b x : List UInt8} (h : openS b = some x) : x = b.take (b.length - 4) ∧ 4 ≤ b.length := by
  unfold openS at h
  split at h
  · cases h
  · rename_i h4
    split at h
    · cases h; exact ⟨rfl, by omega⟩
    · cases h
def OnePostL (w : World) (o : Option (List UInt8 × Nat)) (e : Ending) (w' : World) : Prop :=
  match o with
  | none => e = .returned (.tuple #[.slice none 0 0, .int .i64 0, .bool false]) ∧ Below w.heap.size w w'
  | some (x, k) => ∃ A c, e = .returned (.tuple #[.slice A x.length c, .int .i64 (k : Int), .bool true]) ∧ Sl w' w'.heap.size A (bv x) ∧ x.length ≤ c ∧ c ≤ maxLen ∧ Below w.heap.size w w'
set_option maxRecDepth 100000 in
set_option maxHeartbeats 1600000 in
theorem LOne_any (w : World) (A : Option Addr) (n c : Nat) (b : List UInt8) (hb : Sl w w.heap.size A (bv b)) (h0 : n = b.length) (hc : n ≤ c) (hm : c ≤ maxLen) (hbl : b.length ≤ 140737488355328) :
    Calls Try.prog 58 #[.slice A n c] w (OnePostL w (Lg.oneR b)) := by
  obtain ⟨v, k, e0, ht⟩ : ∃ v k e0, takeS b = (v, k, e0) := ⟨_, _, _, rfl⟩
  have HT := Lib.hid (Take_tup w w.heap.size A n c b v k e0 hb h0 hc hm ht)
  have hle : k ≤ 10 ∧ (e0 = 0 → 1 ≤ k) := by
    by_cases h : (takeS b).2.2 = 0
    · have := takeS_ok _ h; rw [ht] at this; exact ⟨this.2.1, fun _ => this.1⟩
    · have := takeS_bad _ h; rw [ht] at this h; simp only at this h; exact ⟨by omega, fun h' => absurd h' h⟩
  have hlt := takeS_lt b
  rw [ht] at hlt
  simp only at hlt
  unfold Lg.oneR
  rw [ht]
  simp only
  by_cases he : e0 = 0
  · subst he
    by_cases hv : v ≤ 65536
    · have q1 : decide (65536 < (v : Int)) = false := by rw [decide_eq_false_iff_not]; omega
      have wv : IntKind.i64.wrap (v : Int) = (v : Int) := by rw [IntKind.wrap_i64]; omega
      by_cases hl : k + v + 4 ≤ b.length
      · rw [if_pos ⟨rfl, hv, hl⟩]
        have q2 : decide ((n : Int) < (k : Int) + (v : Int) + 4) = false := by rw [decide_eq_false_iff_not]; omega
        obtain ⟨N, hN⟩ : ∃ N, k + v + 4 = N := ⟨_, rfl⟩
        have hNn : N ≤ n := by omega
        have hNc : N ≤ c := by omega
        have sN : Sl w w.heap.size A (bv (b.take N)) := by
          have := hb.tk N
          rw [bv_take] at this
          exact this
        have hNl : N = (b.take N).length := by rw [List.length_take]; omega
        have HO := Lib.hid (Open_any w A N c (b.take N) sN hNl hNc hm (by omega))
        rw [hN]
        cases ho : openS (b.take N) with
        | none =>
          rw [ho] at HO
          clear h0 ho hNl sN
          go_enter Try.func58, Try.ntmps58
          go_wp2_with fail
          refine HT.out.mono ?_
          rintro e w' ⟨rfl, rfl⟩
          have hNi : (k : Int) + (v : Int) + 4 = (N : Int) := by omega
          go_wp2_with fail
          refine HO.out.mono ?_
          rintro e w1 ⟨rfl, b1⟩
          go_wp2_with fail
          exact bodyPost_ret (v := .tuple #[.slice none 0 0, .int .i64 0, .bool false]) (by simp [results, Try.results58, go_sem]) rfl ⟨rfl, b1⟩
        | some x =>
          rw [ho] at HO
          obtain ⟨x1, _⟩ := open_lenL ho
          have hxl : x.length = k + v := by rw [x1, List.length_take, List.length_take]; omega
          have HX := Lib.hid hxl
          clear h0 ho hNl sN x1 hxl
          go_enter Try.func58, Try.ntmps58
          go_wp2_with fail
          refine HT.out.mono ?_
          rintro e w' ⟨rfl, rfl⟩
          have hNi : (k : Int) + (v : Int) + 4 = (N : Int) := by omega
          go_wp2_with fail
          refine HO.out.mono ?_
          rintro e w1 ⟨A1, c1, rfl, hown1, b1⟩
          obtain ⟨s1, hc1, hm1⟩ := OwnB.sl hown1
          rw [HX.out] at hc1 ⊢
          have sk := s1.cut k c1 (by simpa [HX.out] using hc1)
          rw [bv_drop] at sk
          have hdl : (x.drop k).length = v := by rw [List.length_drop, HX.out]; omega
          have hkc : k ≤ c1 := by omega
          clear hown1 s1
          by_cases hck : c1 = k
          · rw [if_pos hck] at sk
            subst hck
            have hv0 : v = 0 := by omega
            subst hv0
            go_wp2_with fail
            exact bodyPost_ret (v := .tuple #[.slice A1 0 0, .int .i64 (N : Int), .bool true]) (by simp [results, Try.results58, go_sem]; omega) rfl ⟨A1, 0, by rw [hdl], sk, by omega, by simp [maxLen], b1⟩
          · rw [if_neg hck] at sk
            go_wp2_with fail
            exact bodyPost_ret (v := .tuple #[.slice (A1.map (·.add k)) v (c1 - k), .int .i64 (N : Int), .bool true]) (by simp [results, Try.results58, go_sem]) rfl ⟨A1.map (·.add k), c1 - k, by rw [hdl], sk, by omega, by omega, b1⟩
      · rw [if_neg (fun h => hl h.2.2)]
        have q2 : decide ((n : Int) < (k : Int) + (v : Int) + 4) = true := by rw [decide_eq_true_eq]; omega
        clear h0
        go_enter Try.func58, Try.ntmps58
        go_wp2_with fail
        refine HT.out.mono ?_
        rintro e w' ⟨rfl, rfl⟩
        go_wp2_with fail
        exact bodyPost_ret (v := .tuple #[.slice none 0 0, .int .i64 0, .bool false]) (by simp [results, Try.results58, go_sem]) rfl ⟨rfl, Below.refl _ _⟩
    · rw [if_neg (fun h => hv h.2.1)]
      have q1 : decide (65536 < (v : Int)) = true := by rw [decide_eq_true_eq]; omega
      clear h0
      go_enter Try.func58, Try.ntmps58
      go_wp2_with fail
      refine HT.out.mono ?_
      rintro e w' ⟨rfl, rfl⟩
      go_wp2_with fail
      exact bodyPost_ret (v := .tuple #[.slice none 0 0, .int .i64 0, .bool false]) (by simp [results, Try.results58, go_sem]) rfl ⟨rfl, Below.refl _ _⟩
  · rw [if_neg (fun h => he h.1)]
    have q0 : ((e0 : Int) != 0) = true := by simp; omega
    clear h0
    go_enter Try.func58, Try.ntmps58
    go_wp2_with fail
    refine HT.out.mono ?_
    rintro e w' ⟨rfl, rfl⟩
    go_wp2_with fail
    exact bodyPost_ret (v := .tuple #[.slice none 0 0, .int .i64 0, .bool false]) (by simp [results, Try.results58, go_sem]) rfl ⟨rfl, Below.refl _ _⟩
end Go.Proofs.Ytkgmbpbbgkjidaa

