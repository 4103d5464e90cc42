/- Flags: plain facts of joining; objects side by side. -/
import Derived.Test.YtjijhmeagjhfoaaFlX
namespace Go.Proofs.Ytjijhmeagjhfoaa
open Go.RowKit
set_option maxRecDepth 20000

theorem ofR_code' (x : ID) : ∀ (l : List Nat) (R : List FE), Rise R → AllR R → codeO (look (l.foldl (fun R n => putR R (FU n).1 (FU n).2) R) x) = l.foldl (fun c u => if (FU u).1 = x then max c (FU u).2.code else c) (codeO (look R x))
  | [], _, _, _ => rfl
  | n :: l, R, h1, h2 => by
    rw [List.foldl_cons, List.foldl_cons, ofR_code' x l _ (rise_put h1 _ _) (all_put h1 h2 _ (FU_right n)), look_put h1]
    congr 1
    by_cases e : (FU n).1 = x
    · rw [if_pos e.symm, if_pos e, ← e]
      exact mxO_code (rightO_look h2 _) (FU_right n)
    · rw [if_neg (fun h => e h.symm), if_neg e]
theorem ofR_code (l : List Nat) (x : ID) : codeO (look (ofR l) x) = codeX FU l x := ofR_code' x l [] List.Pairwise.nil (fun p hp => by simp at hp)
def GoodR (R : List FE) : Prop := Rise R ∧ AllR R
theorem GoodR.of (l : List Nat) : GoodR (ofR l) := ofR_facts l
theorem GoodR.join {R S : List FE} (h : GoodR R) (k : GoodR S) : GoodR (joinR R S) := join_facts S R h.1 h.2 k.2
theorem GoodR.code {R S : List FE} (h : GoodR R) (k : GoodR S) (x : ID) : codeO (look (joinR R S) x) = max (codeO (look R x)) (codeO (look S x)) := by
  rw [look_join S R h.1 k.1]
  exact joinO_code (rightO_look h.2 x) (rightO_look k.2 x)
theorem GoodR.ext {R S : List FE} (h : GoodR R) (k : GoodR S) (he : ∀ x, codeO (look R x) = codeO (look S x)) : R = S := codes_ext h.1 k.1 h.2 k.2 he
theorem join_comm {R S : List FE} (h : GoodR R) (k : GoodR S) : joinR R S = joinR S R :=
  (h.join k).ext (k.join h) fun x => by rw [h.code k, k.code h]; omega
theorem join_assoc {R S T : List FE} (h : GoodR R) (k : GoodR S) (t : GoodR T) : joinR (joinR R S) T = joinR R (joinR S T) :=
  ((h.join k).join t).ext (h.join (k.join t)) fun x => by rw [(h.join k).code t, h.code k, h.code (k.join t), k.code t]; omega
theorem join_self {R : List FE} (h : GoodR R) : joinR R R = R := (h.join h).ext h fun x => by rw [h.code h]; omega
theorem join_all (x y z : List Nat) : joinR (joinR (ofR x) (ofR y)) (ofR z) = ofR (z ++ x ++ y) := by
  have hx := GoodR.of x
  have hy := GoodR.of y
  have hz := GoodR.of z
  refine ((hx.join hy).join hz).ext (GoodR.of _) fun i => ?_
  rw [(hx.join hy).code hz, hx.code hy, ofR_code, ofR_code, ofR_code, ofR_code, codeX_append, codeX_append]
  omega
theorem join_less {R S T : List FE} (h : GoodR R) (k : GoodR S) (t : GoodR T) : joinR (joinR (joinR R S) T) (joinR S R) = joinR (joinR R S) T :=
  (((h.join k).join t).join (k.join h)).ext ((h.join k).join t) fun x => by rw [((h.join k).join t).code (k.join h), (h.join k).code t, h.code k, k.code h]; omega
/-- objects side by side: a map's box, its block, what it has -/
def Objs (w0 : World) (L : List (Nat × Nat × List FE)) (W : World) : Prop :=
  (∀ (i m b : Nat) (R : List FE), L[i]? = some (m, b, R) → FSt W m b R ∧ w0.heap.size ≤ b) ∧ (∀ (i j m b m' b' : Nat) (R R' : List FE), i ≠ j → L[i]? = some (m, b, R) → L[j]? = some (m', b', R') → b ≠ b') ∧ Below w0.heap.size w0 W
section
variable {w0 W W' : World} {L : List (Nat × Nat × List FE)} {i j m b m2 b2 : Nat} {R R2 R' : List FE}
theorem Objs.fs (h : Objs w0 L W) (hi : L[i]? = some (m, b, R)) : FSt W m b R := (h.1 i m b R hi).1
theorem Objs.below (h : Objs w0 L W) (hb : Below W.heap.size W W') : Objs w0 L W' :=
  ⟨fun i m b R hi => ⟨(h.1 i m b R hi).1.below hb, (h.1 i m b R hi).2⟩, h.2.1, h.2.2.trans (hb.mono h.2.2.size)⟩
theorem Objs.put (h : Objs w0 L W) (hi : L[i]? = some (m, b, R)) (hf : FSt W' m b R') (hg : W.grownBy W' (some b)) : Objs w0 (L.set i (m, b, R')) W' := by
  have hil := (List.getElem?_eq_some_iff.1 hi).1
  have key : ∀ (k : Nat) (m' b' : Nat) (S : List FE), (L.set i (m, b, R'))[k]? = some (m', b', S) → (k = i ∧ m' = m ∧ b' = b ∧ S = R') ∨ (k ≠ i ∧ L[k]? = some (m', b', S)) := fun k m' b' S hk => by
    by_cases e : i = k
    · subst e
      rw [List.getElem?_set_self hil] at hk
      have := Option.some.inj hk
      simp only [Prod.mk.injEq] at this
      exact .inl ⟨rfl, this.1.symm, this.2.1.symm, this.2.2.symm⟩
    · rw [List.getElem?_set_ne e] at hk
      exact .inr ⟨fun h => e h.symm, hk⟩
  refine ⟨fun k m' b' S hk => ?_, fun k l m' b' m'' b'' S S' hkl hk hl => ?_, below_grown h.2.2 hg (h.1 i m b R hi).2 h.2.2.size⟩
  · rcases key k m' b' S hk with ⟨rfl, rfl, rfl, rfl⟩ | ⟨hne, hk'⟩
    · exact ⟨hf, (h.1 _ _ _ _ hi).2⟩
    · have h2 := h.1 k m' b' S hk'
      exact ⟨h2.1.kept hg (h.2.1 k i m' b' m b S R hne hk' hi) (h2.1.ne (h.fs hi)), h2.2⟩
  · rcases key k m' b' S hk with ⟨rfl, rfl, rfl, rfl⟩ | ⟨hne, hk'⟩
    · rcases key l m'' b'' S' hl with ⟨rfl, rfl, rfl, rfl⟩ | ⟨hne', hl'⟩
      · exact absurd rfl hkl
      · exact h.2.1 _ _ _ _ _ _ _ _ hkl hi hl'
    · rcases key l m'' b'' S' hl with ⟨rfl, rfl, rfl, rfl⟩ | ⟨hne', hl'⟩
      · exact h.2.1 _ _ _ _ _ _ _ _ hkl hk' hi
      · exact h.2.1 _ _ _ _ _ _ _ _ hkl hk' hl'
theorem Objs.add (h : Objs w0 L W) (hb : Below W.heap.size W W') (hf : FSt W' m b R) (hn : W.heap.size ≤ b) : Objs w0 (L ++ [(m, b, R)]) W' := by
  have h' := h.below hb
  have key : ∀ (k : Nat) (m' b' : Nat) (S : List FE), (L ++ [(m, b, R)])[k]? = some (m', b', S) → (k = L.length ∧ m' = m ∧ b' = b ∧ S = R) ∨ (k < L.length ∧ L[k]? = some (m', b', S)) := fun k m' b' S hk => by
    by_cases e : k < L.length
    · rw [List.getElem?_append_left e] at hk
      exact .inr ⟨e, hk⟩
    · have hlt := (List.getElem?_eq_some_iff.1 hk).1
      rw [List.length_append, List.length_singleton] at hlt
      have hkl : k = L.length := by omega
      subst hkl
      rw [List.getElem?_append_right (Nat.le_refl _), Nat.sub_self] at hk
      simp only [List.getElem?_cons_zero, Option.some.injEq, Prod.mk.injEq] at hk
      exact .inl ⟨rfl, hk.1.symm, hk.2.1.symm, hk.2.2.symm⟩
  refine ⟨fun k m' b' S hk => ?_, fun k l m' b' m'' b'' S S' hkl hk hl => ?_, h'.2.2⟩
  · rcases key k m' b' S hk with ⟨rfl, rfl, rfl, rfl⟩ | ⟨hne, hk'⟩
    · exact ⟨hf, Nat.le_trans h.2.2.size hn⟩
    · exact h'.1 k m' b' S hk'
  · rcases key k m' b' S hk with ⟨rfl, rfl, rfl, rfl⟩ | ⟨hne, hk'⟩
    · rcases key l m'' b'' S' hl with ⟨rfl, rfl, rfl, rfl⟩ | ⟨hne', hl'⟩
      · exact absurd rfl hkl
      · have := (h.fs hl').blt
        omega
    · rcases key l m'' b'' S' hl with ⟨rfl, rfl, rfl, rfl⟩ | ⟨hne', hl'⟩
      · have := (h.fs hk').blt
        omega
      · exact h.2.1 _ _ _ _ _ _ _ _ hkl hk' hl'
theorem Objs.nil (w0 : World) : Objs w0 [] w0 := ⟨fun i m b R h => by simp at h, fun i j m b m' b' R R' _ h => by simp at h, Below.refl _ _⟩
theorem Objs.join (h : Objs w0 L W) (hi : L[i]? = some (m, b, R)) (hj : L[j]? = some (m2, b2, R2)) (hij : i ≠ j) (hn : R.length + R2.length < 1000000) :
    Calls Try.prog 14 #[.pointer (some ⟨m, 0, none⟩), .pointer (some ⟨m2, 0, none⟩)] W fun e W' => e = .returned (.tuple #[]) ∧ Objs w0 (L.set i (m, b, joinR R R2)) W' :=
  (Join_any W m b m2 b2 R R2 (h.fs hi) (h.fs hj) (h.2.1 _ _ _ _ _ _ _ _ hij hi hj) hn).mono fun _ _ ⟨h1, h2, h3⟩ => ⟨h1, h.put hi h2 h3⟩
theorem Objs.same (h : Objs w0 L W) (hi : L[i]? = some (m, b, R)) (hj : L[j]? = some (m2, b2, R2)) {q : Bool} (hq : decide (R = R2) = q) :
    Calls Try.prog 13 #[.pointer (some ⟨m, 0, none⟩), .pointer (some ⟨m2, 0, none⟩)] W fun e W' => e = .returned (.bool q) ∧ Objs w0 L W' := by
  subst hq
  exact (Same_any W m b m2 b2 R R2 (h.fs hi) (h.fs hj)).mono fun _ _ ⟨h1, h2⟩ => ⟨h1, h.below h2⟩
theorem Objs.of (h : Objs w0 L W) (A : Option Addr) (c nn : Nat) (l : List Nat) (hsl : Sl W W.heap.size A (l.map fun (n : Nat) => Value.int .u32 (n : Int))) (hb : ∀ n ∈ l, n < 4294967296) (hN : nn = l.length) (hn : nn ≤ 1000) :
    Calls Try.prog 21 #[.slice A nn c] W fun e W' => ∃ m b, e = .returned (.pointer (some ⟨m, 0, none⟩)) ∧ Objs w0 (L ++ [(m, b, ofR l)]) W' :=
  (of_any W A c nn l hsl hb hN hn).mono fun _ _ ⟨m, b, h1, h2, _, h4, _, h6⟩ => ⟨m, b, h1, h.add h6 h2 h4⟩
theorem Objs.copy (h : Objs w0 L W) (hi : L[i]? = some (m, b, R)) :
    Calls Try.prog 16 #[.pointer (some ⟨m, 0, none⟩)] W fun e W' => ∃ m' b', e = .returned (.pointer (some ⟨m', 0, none⟩)) ∧ Objs w0 (L ++ [(m', b', R)]) W' :=
  (Copy_any W m b R (h.fs hi)).mono fun _ _ ⟨h1, h2, h3⟩ => ⟨_, _, h1, h.add h3 h2 (Nat.le_refl _)⟩
end
end Go.Proofs.Ytjijhmeagjhfoaa

