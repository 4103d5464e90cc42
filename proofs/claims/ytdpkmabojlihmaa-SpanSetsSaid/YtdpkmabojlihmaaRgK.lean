/- Ranges: make and copy at rows of the call's own. -/
import Derived.Test.YtdpkmabojlihmaaRgP
import Derived.Laws.CopyRow
namespace Go.Proofs.Ytdpkmabojlihmaa
open Go.RowKit Go.Proofs.Ytdpkmabojlihmaa.Pl Go.Proofs.Ytdpkmabojlihmaa.Sp

theorem rv_inj_len {l m : List Rg} (h : rv l = rv m) : l.length = m.length := by
  have := congrArg List.length h
  rw [rv_len, rv_len] at this
  omega
theorem OwnR.lenEq {w : World} {base g n cap : Nat} {l : List Rg} (h : OwnR w base (.slice (some ⟨g, 0, none⟩) n cap) l) : n = l.length := by
  rcases h.2 with ⟨h', _⟩ | ⟨_, _, _, h', _⟩
  · simp at h'
  · simp only [Value.slice.injEq] at h'; exact h'.2.1
theorem run_copyR (w : World) (ty : TypeId) {base g L cap : Nat} {l k : List Rg} (hown : OwnR w base (.slice (some ⟨g, 0, none⟩) L cap) l) (o : Nat) {D A : Option Addr} {dLen dCap m c B : Nat}
    (hr : Sl w B A (rv k)) (hm : m = k.length) (hD : 0 < m → D = some ⟨g, o * 2, none⟩) (hle : m ≤ dLen) (hfit : o + m ≤ l.length) :
    ∃ w', (Builtin.copy_ #[22, 22] ty #[.slice D dLen dCap, .slice A m c]).run Try.prog w = .ok (.int .i64 (m : Int)) w' ∧ OwnR w' base (.slice (some ⟨g, 0, none⟩) L cap) (l.take o ++ k ++ l.drop (o + m)) ∧ w.grownBy w' (some g) := by
  obtain ⟨i, hi, hz, hz1, hz2⟩ := info_parts rginfo
  have hmin : Nat.min m dLen = m := Nat.min_eq_left hle
  have hl0 : ∀ (x : Addr), (loadCells x 0).run Try.prog w = .ok #[] w := fun x => by simpa using run_loadCells_list (P := Try.prog) w x [] (by simp)
  rcases Nat.eq_zero_or_pos m with h0 | hpos
  · subst h0
    have hk : k = [] := List.eq_nil_of_length_eq_zero hm.symm
    subst hk
    refine ⟨w, ?_, by simpa using hown, World.grownBy.refl w _⟩
    cases D <;> cases A <;> simp [Builtin.copy_, run_underlying Try.underlying22, Builtin.lenOf, Builtin.firstCells, sizeOf, typeInfo, hi, storeCells, hl0, goInt]
  · have hL := hown.lenEq
    obtain ⟨b', o', e', _, _, hc'⟩ := hr.at_ (k := 0) (by rw [rv_len]; omega)
    subst e'
    rw [hD hpos]
    rcases hown.2 with ⟨h', _⟩ | ⟨g', cap', cur, hv, hbg, hg, hncap, hcm, hcs, ht⟩
    · simp at h'
    · simp only [Value.slice.injEq, Option.some.injEq, Addr.mk.injEq] at hv
      obtain ⟨⟨rfl, _⟩, _, rfl⟩ := hv
      have hrl : (rv k).length = m * 2 := by rw [rv_len, hm]
      have hload := run_loadCells_list (P := Try.prog) w ⟨b', o', none⟩ (rv k) (fun j u hu => by
        have : (⟨b', o', none⟩ : Addr).add j = ⟨b', o' + j, none⟩ := by
          unfold Addr.add
          split
          · rename_i h0; subst h0; rfl
          · rfl
        rw [this]; exact hc' j u hu)
      rw [hrl] at hload
      have hst := run_storeCells_at (P := Try.prog) g (o * 2) 24 (rv k) 0 cur w hg (by rw [hrl, hcs]; omega) (rv_one k)
      simp only [Nat.add_zero] at hst
      refine ⟨w.setRow g (cur.toList.take (o * 2) ++ rv k ++ cur.toList.drop (o * 2 + (rv k).length)).toArray, ?_, ?_, ⟨rfl, rfl, rfl, by simp, fun k' _ hk => setRow_other w g k' _ (fun e => hk (by rw [e]))⟩⟩
      · simp [Builtin.copy_, run_underlying Try.underlying22, Builtin.lenOf, Builtin.firstCells, sizeOf, typeInfo, hi, hz1, hmin, hload, hst, goInt]
      · have hlen : (l.take o ++ k ++ l.drop (o + m)).length = l.length := by simp [← hm]; omega
        have hll : cur.toList.length = cap * 2 := by simpa using hcs
        refine ⟨by rw [rv_len], .inr ⟨g, cap, _, by rw [hlen, hL], hbg, setRow_heap w g cur _ _ _ hg, by rw [hlen, ← hL]; omega, hcm, ?_, ?_⟩⟩
        · simp [hrl]; omega
        · rw [hlen, rv_append, rv_append, ← rv_take, ← rv_drop, ← ht, ← hL]
          simp only
          apply List.ext_getElem?
          intro j
          simp only [List.getElem?_take, List.getElem?_append, List.length_append, List.length_take, List.getElem?_drop, hrl, hll]
          have hLc : L ≤ cap := by omega
          (repeat' split) <;> first | rfl | omega | (congr 1; omega) | (exfalso; omega)
section
variable {ops : Array Oper} {rest : List Oper} {o : Oper} {a : Act} {Q : Exit → Act → World → Prop} {w : World} {s x : Operand}
theorem copyR (hgd : o.guard = none) (ho : o.op = .call { callee := .builtin .copy, args := #[s, x], argTypes := #[22, 22] })
    {base g L cap : Nat} {l k : List Rg} (hown : OwnR w base (.slice (some ⟨g, 0, none⟩) L cap) l) (at' : Nat) {D A : Option Addr} {dLen dCap m c B : Nat} (hr : Sl w B A (rv k)) (hm : m = k.length)
    (hs : a.eval s = .slice D dLen dCap) (hx : a.eval x = .slice A m c) (hD : 0 < m → D = some ⟨g, at' * 2, none⟩) (hle : m ≤ dLen) (hfit : at' + m ≤ l.length)
    (h : ∀ w', OwnR w' base (.slice (some ⟨g, 0, none⟩) L cap) (l.take at' ++ k ++ l.drop (at' + m)) → w.grownBy w' (some g) → wpList Try.prog ops Q rest (a.put o.dst (.int .i64 (m : Int))) w') : wpList Try.prog ops Q (o :: rest) a w := by
  refine wpList_plain hgd fun K hK => ?_
  obtain ⟨w', hrun, h2, h3⟩ := run_copyR w o.type hown at' hr (c := c) (dCap := dCap) hm hD hle hfit
  unfold Oper.wp execOp
  simp only [ho, resolve, invoke, builtin, Sem.run_bind, Sem.run_pure, Result.andThen_ok, List.map_toArray, List.map_cons, List.map_nil, hs, hx, hrun]
  exact hK _ _ (h w' h2 h3)
theorem made2 (n : Nat) : (madeCells (Value.agg #[.int .i64 0, .int .i64 0]).cells (n * 2)).toList = rv (List.replicate n ⟨0, 0⟩) := by
  apply List.ext_getElem?
  intro j
  have e1 : (madeCells (Value.agg #[.int .i64 0, .int .i64 0]).cells (n * 2)).toList[j]? = if j < n * 2 then some (.int .i64 0) else none := by
    simp only [madeCells, Value.cells, List.size_toArray, List.length_cons, List.length_nil, Array.toList_map, Array.toList_range, List.getElem?_map]
    by_cases hj : j < n * 2
    · rw [List.getElem?_range hj, if_pos hj]
      rcases (by omega : j % 2 = 0 ∨ j % 2 = 1) with e | e <;> simp [e]
    · rw [List.getElem?_eq_none (by simp; omega), if_neg hj]; rfl
  rw [e1]
  by_cases hj : j < n * 2
  · rw [if_pos hj]
    have := rv_get (List.replicate n ⟨0, 0⟩) (j / 2) (j % 2) ⟨0, 0⟩ (by rw [List.getElem?_replicate, if_pos (by omega)]) (by omega)
    rw [show j / 2 * 2 + j % 2 = j by omega] at this
    rw [this]
    rcases (by omega : j % 2 = 0 ∨ j % 2 = 1) with e | e <;> rw [e] <;> rfl
  · rw [if_neg hj, List.getElem?_eq_none (by rw [rv_len]; simp; omega)]
/-- make([]Range, n) -/
theorem mkR {lo co : Operand} (hgd : o.guard = none) (ho : o.op = Op.makeSlice 22 lo co) {kl kc : IntKind} {L C : Int} {n : Nat} (hl : a.eval lo = .int kl L) (hc : a.eval co = .int kc C) (hL : L = (n : Int)) (hC : C = (n : Int)) (h1 : n ≤ 1000000000000)
    (h : ∀ w', OwnR w' w.heap.size (.slice (some ⟨w.heap.size, 0, none⟩) n n) (List.replicate n ⟨0, 0⟩) → w.grownBy w' none → wpList Try.prog ops Q rest (a.put o.dst (.slice (some ⟨w.heap.size, 0, none⟩) n n)) w') : wpList Try.prog ops Q (o :: rest) a w := by
  obtain ⟨i, hi, hz, hz1, hz2⟩ := info_parts rginfo
  refine wpList_make_full w hgd lo co _ ho w.heap.size 24 i (.agg #[.int .i64 0, .int .i64 0]) 2 Try.underlying22 hi hz hz1 kl kc L C n hl hc hL hC (by rw [hz2]; omega) (by simp only [maxLen]; omega) (Nat.le_refl _) fun w' h1 h2 => h w' ?_ h2
  rw [made2] at h1
  rw [OwnR, List.length_replicate]
  exact h1
end
end Go.Proofs.Ytdpkmabojlihmaa

