/- Digests: mix. -/
import Derived.Test.YtjbelkpmbbkhgaaShS
import Derived.Test.YtjbelkpmbbkhgaaParD
namespace Go.Proofs.Ytjbelkpmbbkhgaa
open Go.RowKit Go.Proofs.Ytjbelkpmbbkhgaa.Sh

def z8 : List Nat := List.replicate 8 0
/-- how one block goes on -/
def rp (e : Nat) : Nat := (rl e 26 ^^^ rl e 21) ^^^ rl e 7
def rq (a : Nat) : Nat := (rl a 30 ^^^ rl a 19) ^^^ rl a 10
def rch (e f g : Nat) : Nat := (e &&& f) ^^^ ((e ^^^ 4294967295) &&& g)
def rmj (a b c : Nat) : Nat := ((a &&& b) ^^^ (a &&& c)) ^^^ (b &&& c)
def rt (k x e f g h : Nat) : Nat := ((((h + rp e) % 4294967296 + rch e f g) % 4294967296 + k) % 4294967296 + x) % 4294967296
def ru (a b c : Nat) : Nat := (rq a + rmj a b c) % 4294967296
def rnd (k x : Nat) (l : List Nat) : List Nat :=
  [(rt k x (at' l 4) (at' l 5) (at' l 6) (at' l 7) + ru (at' l 0) (at' l 1) (at' l 2)) % 4294967296, at' l 0, at' l 1, at' l 2, (at' l 3 + rt k x (at' l 4) (at' l 5) (at' l 6) (at' l 7)) % 4294967296, at' l 4, at' l 5, at' l 6]
def mixR (b : List UInt8) (h : List Nat) : Nat → List Nat
  | 0 => h
  | i + 1 => rnd (at' keys i) (at' (spr b 64) i) (mixR b h i)
def addT (h v : List Nat) (k : Nat) : List Nat := (List.range 8).map fun i => if i < k then (at' h i + at' v i) % 4294967296 else at' h i
def mixS (h : List Nat) (b : List UInt8) : List Nat := addT h (mixR b h 64) 8
def Ok8 (l : List Nat) : Prop := l.length = 8 ∧ ∀ x ∈ l, x < 4294967296
theorem ok8_of {a0 a1 a2 a3 a4 a5 a6 a7 : Nat} (h0 : a0 < 4294967296) (h1 : a1 < 4294967296) (h2 : a2 < 4294967296) (h3 : a3 < 4294967296) (h4 : a4 < 4294967296) (h5 : a5 < 4294967296) (h6 : a6 < 4294967296) (h7 : a7 < 4294967296) : Ok8 [a0, a1, a2, a3, a4, a5, a6, a7] := by
  refine ⟨by simp, fun x hx => ?_⟩
  simp only [List.mem_cons, List.not_mem_nil, or_false] at hx
  rcases hx with rfl | rfl | rfl | rfl | rfl | rfl | rfl | rfl <;> assumption
theorem mod_lt (n : Nat) : n % 4294967296 < 4294967296 := Nat.mod_lt _ (by omega)
theorem rnd_ok (k x : Nat) {l : List Nat} (hl : Ok8 l) : Ok8 (rnd k x l) :=
  ok8_of (mod_lt _) (at'_lt hl.2 0) (at'_lt hl.2 1) (at'_lt hl.2 2) (mod_lt _) (at'_lt hl.2 4) (at'_lt hl.2 5) (at'_lt hl.2 6)
theorem mixR_ok (b : List UInt8) {h : List Nat} (hh : Ok8 h) : ∀ i, Ok8 (mixR b h i)
  | 0 => hh
  | i + 1 => rnd_ok _ _ (mixR_ok b hh i)
theorem addT_len (h v : List Nat) (k : Nat) : (addT h v k).length = 8 := by simp [addT]
theorem addT_get (h v : List Nat) (k i : Nat) (hi : i < 8) : at' (addT h v k) i = if i < k then (at' h i + at' v i) % 4294967296 else at' h i := by
  simp [addT, at', hi]
theorem addT_zero {h : List Nat} (v : List Nat) (hh : h.length = 8) : addT h v 0 = h := by
  apply List.ext_getElem?
  intro i
  by_cases hi : i < 8
  · simp [addT, at', hi, List.getElem?_eq_getElem (show i < h.length by omega)]
  · rw [List.getElem?_eq_none (by rw [addT_len]; omega), List.getElem?_eq_none (by omega)]
theorem addT_succ (h v : List Nat) (k : Nat) (hk : k < 8) : (u32s (addT h v k)).set k (.int .u32 (((at' h k + at' v k) % 4294967296 : Nat) : Int)) = u32s (addT h v (k + 1)) := by
  apply List.ext_getElem?
  intro i
  by_cases hi : i < 8
  · by_cases hik : k = i
    · subst hik
      rw [List.getElem?_set_self (by rw [u32s_len, addT_len]; exact hk), u32s_get _ _ (by rw [addT_len]; exact hk), addT_get _ _ _ _ hk, if_pos (by omega)]
    · rw [List.getElem?_set_ne hik, u32s_get _ _ (by rw [addT_len]; exact hi), u32s_get _ _ (by rw [addT_len]; exact hi), addT_get _ _ _ _ hi, addT_get _ _ _ _ hi]
      congr 3
      by_cases h1 : i < k
      · rw [if_pos h1, if_pos (by omega)]
      · rw [if_neg h1, if_neg (by omega)]
  · rw [List.getElem?_eq_none (by rw [List.length_set, u32s_len, addT_len]; omega), List.getElem?_eq_none (by rw [u32s_len, addT_len]; omega)]
theorem addT_ok {h v : List Nat} (hh : Ok8 h) (k : Nat) : Ok8 (addT h v k) := by
  refine ⟨addT_len h v k, fun x hx => ?_⟩
  simp only [addT, List.mem_map, List.mem_range] at hx
  obtain ⟨i, _, rfl⟩ := hx
  split
  · exact Nat.mod_lt _ (by omega)
  · exact at'_lt hh.2 i
theorem mixS_ok {h : List Nat} (hh : Ok8 h) (b : List UInt8) : Ok8 (mixS h b) := addT_ok hh 8
theorem rp_ops {e : Nat} (he : e < 4294967296) : ∃ P1 P : Nat, bits .xor .u32 ((rl e 26 : Nat) : Int) ((rl e 21 : Nat) : Int) = (P1 : Int) ∧ bits .xor .u32 (P1 : Int) ((rl e 7 : Nat) : Int) = (P : Int) ∧ P = rp e :=
  ⟨_, _, u32_xor_nat _ _ (rl_lt he) (rl_lt he), u32_xor_nat (rl e 26 ^^^ rl e 21) (rl e 7) (Nat.xor_lt_two_pow (n := 32) (rl_lt he) (rl_lt he)) (rl_lt he), rfl⟩
theorem rq_ops {a : Nat} (he : a < 4294967296) : ∃ P1 P : Nat, bits .xor .u32 ((rl a 30 : Nat) : Int) ((rl a 19 : Nat) : Int) = (P1 : Int) ∧ bits .xor .u32 (P1 : Int) ((rl a 10 : Nat) : Int) = (P : Int) ∧ P = rq a :=
  ⟨_, _, u32_xor_nat _ _ (rl_lt he) (rl_lt he), u32_xor_nat (rl a 30 ^^^ rl a 19) (rl a 10) (Nat.xor_lt_two_pow (n := 32) (rl_lt he) (rl_lt he)) (rl_lt he), rfl⟩
theorem rch_ops {e f g : Nat} (he : e < 4294967296) (hf : f < 4294967296) (hg : g < 4294967296) : ∃ A N B C : Nat, bits .and .u32 (e : Int) (f : Int) = (A : Int) ∧ bits .xor .u32 (if IntKind.u32.signed = true then -1 else IntKind.u32.max) (e : Int) = (N : Int) ∧ bits .and .u32 (N : Int) (g : Int) = (B : Int) ∧ bits .xor .u32 (A : Int) (B : Int) = (C : Int) ∧ C = rch e f g := by
  have hN : e ^^^ 4294967295 < 4294967296 := Nat.xor_lt_two_pow (n := 32) he (by omega)
  have hx : bits .xor .u32 (if IntKind.u32.signed = true then -1 else IntKind.u32.max) (e : Int) = ((e ^^^ 4294967295 : Nat) : Int) := by
    have h := u32_xor_nat 4294967295 e (by omega) he
    rw [Nat.xor_comm] at h
    exact h
  exact ⟨_, _, _, _, u32_and_nat e f he hf, hx, u32_and_nat _ g hN hg, u32_xor_nat _ _ (Nat.lt_of_le_of_lt Nat.and_le_left he) (Nat.lt_of_le_of_lt Nat.and_le_left hN), rfl⟩
theorem rmj_ops {a b c : Nat} (ha : a < 4294967296) (hb : b < 4294967296) (hc : c < 4294967296) : ∃ A B C D E : Nat, bits .and .u32 (a : Int) (b : Int) = (A : Int) ∧ bits .and .u32 (a : Int) (c : Int) = (B : Int) ∧ bits .xor .u32 (A : Int) (B : Int) = (C : Int) ∧ bits .and .u32 (b : Int) (c : Int) = (D : Int) ∧ bits .xor .u32 (C : Int) (D : Int) = (E : Int) ∧ E = rmj a b c := by
  have h1 : a &&& b < 4294967296 := Nat.lt_of_le_of_lt Nat.and_le_left ha
  have h2 : a &&& c < 4294967296 := Nat.lt_of_le_of_lt Nat.and_le_left ha
  have h3 : b &&& c < 4294967296 := Nat.lt_of_le_of_lt Nat.and_le_left hb
  exact ⟨_, _, _, _, _, u32_and_nat a b ha hb, u32_and_nat a c ha hc, u32_xor_nat _ _ h1 h2, u32_and_nat b c hb hc, u32_xor_nat _ _ (Nat.xor_lt_two_pow (n := 32) h1 h2) h3, rfl⟩
theorem rnd_ops (k x : Nat) {l : List Nat} (h : ∀ i, at' l i < 4294967296) : ∃ P1 P A N B C T1 T2 T3 T Q1 Q A' B' C' D' E U TU V3 : Nat,
    bits .xor .u32 ((rl (at' l 4) 26 : Nat) : Int) ((rl (at' l 4) 21 : Nat) : Int) = (P1 : Int) ∧ bits .xor .u32 (P1 : Int) ((rl (at' l 4) 7 : Nat) : Int) = (P : Int) ∧
    bits .and .u32 ((at' l 4 : Nat) : Int) ((at' l 5 : Nat) : Int) = (A : Int) ∧ bits .xor .u32 (if IntKind.u32.signed = true then -1 else IntKind.u32.max) ((at' l 4 : Nat) : Int) = (N : Int) ∧ bits .and .u32 (N : Int) ((at' l 6 : Nat) : Int) = (B : Int) ∧ bits .xor .u32 (A : Int) (B : Int) = (C : Int) ∧
    IntKind.u32.wrap (((at' l 7 : Nat) : Int) + (P : Int)) = (T1 : Int) ∧ IntKind.u32.wrap ((T1 : Int) + (C : Int)) = (T2 : Int) ∧ IntKind.u32.wrap ((T2 : Int) + (k : Int)) = (T3 : Int) ∧ IntKind.u32.wrap ((T3 : Int) + (x : Int)) = (T : Int) ∧
    bits .xor .u32 ((rl (at' l 0) 30 : Nat) : Int) ((rl (at' l 0) 19 : Nat) : Int) = (Q1 : Int) ∧ bits .xor .u32 (Q1 : Int) ((rl (at' l 0) 10 : Nat) : Int) = (Q : Int) ∧
    bits .and .u32 ((at' l 0 : Nat) : Int) ((at' l 1 : Nat) : Int) = (A' : Int) ∧ bits .and .u32 ((at' l 0 : Nat) : Int) ((at' l 2 : Nat) : Int) = (B' : Int) ∧ bits .xor .u32 (A' : Int) (B' : Int) = (C' : Int) ∧ bits .and .u32 ((at' l 1 : Nat) : Int) ((at' l 2 : Nat) : Int) = (D' : Int) ∧ bits .xor .u32 (C' : Int) (D' : Int) = (E : Int) ∧
    IntKind.u32.wrap ((Q : Int) + (E : Int)) = (U : Int) ∧ IntKind.u32.wrap ((T : Int) + (U : Int)) = (TU : Int) ∧ IntKind.u32.wrap (((at' l 3 : Nat) : Int) + (T : Int)) = (V3 : Int) ∧
    rnd k x l = [TU, at' l 0, at' l 1, at' l 2, V3, at' l 4, at' l 5, at' l 6] := by
  obtain ⟨P1, P, a1, a2, a3⟩ := rp_ops (h 4)
  obtain ⟨A, N, B, C, b1, b2, b3, b4, b5⟩ := rch_ops (h 4) (h 5) (h 6)
  obtain ⟨Q1, Q, c1, c2, c3⟩ := rq_ops (h 0)
  obtain ⟨A', B', C', D', E, d1, d2, d3, d4, d5, d6⟩ := rmj_ops (h 0) (h 1) (h 2)
  refine ⟨P1, P, A, N, B, C, _, _, _, _, Q1, Q, A', B', C', D', E, _, _, _, a1, a2, b1, b2, b3, b4, add_op _ _, add_op _ _, add_op _ _, add_op _ _, c1, c2, d1, d2, d3, d4, d5, add_op _ _, add_op _ _, add_op _ _, ?_⟩
  unfold rnd rt ru
  rw [a3, b5, c3, d6]
theorem keys_lt : ∀ x ∈ keys, x < 4294967296 := by decide
theorem info8 : (Try.prog.info? 46).bind (·.zero) = some (.agg (u32s z8).toArray) := by kernel_rfl
/-- the round's numbers -/
theorem cells8 {w : World} {g : Nat} {l : List Nat} (h : At w g (u32s l)) (hl : l.length = 8) : ∀ i, i < 8 → w.cell? ⟨g, i, none⟩ = some (.int .u32 ((at' l i : Nat) : Int)) ∧ w.frozen? ⟨g, i, none⟩ = false :=
  fun i hi => h.2 i _ (u32s_get l i (by omega))
theorem list8 {l : List Nat} (h : l.length = 8) : l = [at' l 0, at' l 1, at' l 2, at' l 3, at' l 4, at' l 5, at' l 6, at' l 7] := by
  match l, h with
  | [a, b, c, d, e, f, g, i], _ => rfl
section
variable {ops : Array Oper} {rest : List Oper} {o : Oper} {a : Act} {Q : Exit → Act → World → Prop} {w : World} {x y : Operand}
theorem agg8 (w : World) : (isAgg 46).run Try.prog w = .ok true w := by first | exact Try.isAgg46 w | go_simp
theorem size8 (w : World) : (sizeOf 46).run Try.prog w = .ok 8 w := by first | exact Try.sizeOf46 w | go_simp
theorem ex_ld8 (ho : o.op = .load 46 x) {g : Nat} {us : List Value} (hx : a.eval x = .pointer (some ⟨g, 0, none⟩)) (hA : At w g us) (hn : us.length = 8) : (execOp a.eval o).run Try.prog w = .ok (.value (.agg us.toArray)) w := by
  have h := run_loadArr w 46 agg8 size8 hA hn
  simp [execOp, ho, hx, h]
theorem ex_st8 (ho : o.op = .store 46 x y) {g : Nat} {us old : List Value} (hx : a.eval x = .pointer (some ⟨g, 0, none⟩)) (hy : a.eval y = .agg us.toArray) (hA : At w g old) (hl : old.length = 8) (hn : us.length = 8) (h1 : ∀ u ∈ us, u.oneCell' = true) :
    (execOp a.eval o).run Try.prog w = .ok .skip (putL w g 0 us) := by
  have h := run_storeArr w 46 size8 hA hl hn h1
  simp [execOp, ho, hx, hy, h]
theorem results_arr8 {fn : Func} {t : Tmp} (h : fn.results = #[.cell t 46]) (tmps : Array Value) {g : Nat} {us : List Value} (hx : tmps.getD t undef = .pointer (some ⟨g, 0, none⟩)) (hA : At w g us) (hn : us.length = 8) :
    (results fn tmps).run Try.prog w = .ok (.agg us.toArray) w := by
  have hl := run_loadCells_list (P := Try.prog) w ⟨g, 0, none⟩ us (fun j u hu => by rw [addN]; exact hA.c j hu)
  rw [hn] at hl
  have hx' : tmps[t]?.getD undef = .pointer (some ⟨g, 0, none⟩) := by simpa using hx
  simp [results, h, hx', asAddr, loadVar, hl]
end
end Go.Proofs.Ytjbelkpmbbkhgaa

