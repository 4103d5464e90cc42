/- Dots: the document's sort. -/
import Derived.Test.YtpeecgphmcihaaaAppD
namespace Go.Proofs.Ytpeecgphmcihaaa
open Go.RowKit Go.Proofs.Ytpeecgphmcihaaa.Pl Go.Proofs.Ytpeecgphmcihaaa.Dt

theorem addr_zero (a : Addr) : a.add 0 = a := by
  unfold Addr.add
  split
  · rfl
  · rename_i h; exact absurd rfl h
theorem dotsize : ∃ i, Try.prog.info? 23 = some i ∧ i.size = 2 := by
  obtain ⟨i, hi, hz, hz1, hz2⟩ := info_parts dotinfo
  exact ⟨i, hi, hz1⟩
/-- s[:j:j] -/
theorem sl_pre (A : Option Addr) (m c j : Nat) (hj : j ≤ c) (w : World) :
    (Instr.sliceAt 25 (.slice A m c) none (some (.int .i64 (j : Int))) (some (.int .i64 (j : Int)))).run Try.prog w = .ok (.slice A j j) w := by
  obtain ⟨i, hi, hs⟩ := dotsize
  have e : A.map (fun x => x.add 0) = A := by cases A <;> simp [addr_zero]
  simp [Instr.sliceAt, Instr.slice, run_underlying Try.underlying25, Instr.sliceBounds, Instr.sliceBound, asIntOf, sizeOf, typeInfo, hi]
  rw [if_pos hj, e]
  simp
theorem dv_drop (ls : List D2) (k : Nat) : (dv ls).drop (k * 2) = dv (ls.drop k) := by
  induction ls generalizing k with
  | nil => simp [dv]
  | cons x t ih =>
    cases k with
    | zero => simp [dv]
    | succ k =>
      show (x.cells ++ dv t).drop ((k + 1) * 2) = dv (t.drop k)
      rw [← ih k, show (k + 1) * 2 = x.cells.length + k * 2 by simp [D2.cells]; omega, List.drop_length_add_append]
/-- s[j:] -/
theorem sl_post (A : Option Addr) (m c j : Nat) (hj : j ≤ m) (hc : m ≤ c) :
    ∃ A2, (∀ w, (Instr.sliceAt 25 (.slice A m c) (some (.int .i64 (j : Int))) none none).run Try.prog w = .ok (.slice A2 (m - j) (c - j)) w) ∧ ∀ (w : World) (B : Nat) (o : List D2), o.length = m → Sl w B A (dv o) → Sl w B A2 (dv (o.drop j)) := by
  obtain ⟨i, hi, hs⟩ := dotsize
  refine ⟨if c = j then A else A.map (fun x => x.add (j * i.size)), fun w => ?_, fun w B o ho hS => ?_⟩
  · simp [Instr.sliceAt, Instr.slice, run_underlying Try.underlying25, Instr.sliceBounds, Instr.sliceBound, asIntOf, sizeOf, typeInfo, hi]
    intro h; omega
  · have h := hS.cut (j * 2) (c * 2) (by rw [dv_len]; omega)
    rw [dv_drop] at h
    rw [hs]
    by_cases e : c = j
    · rw [if_pos e]; rw [if_pos (by omega)] at h; exact h
    · rw [if_neg e]; rw [if_neg (by omega)] at h; exact h
theorem exec_pre {a : Act} {o : Oper} {x y z : Operand} (ho : o.op = .slice 25 x none (some y) (some z)) {A : Option Addr} {m c j : Nat} (hx : a.eval x = .slice A m c) (hy : a.eval y = .int .i64 (j : Int)) (hz : a.eval z = .int .i64 (j : Int)) (hj : j ≤ c) (w : World) :
    (execOp a.eval o).run Try.prog w = .ok (.value (.slice A j j)) w := by
  have h := sl_pre A m c j hj w
  simp [execOp, ho, hx, hy, hz, h]
theorem exec_post {a : Act} {o : Oper} {x y : Operand} (ho : o.op = .slice 25 x (some y) none none) {A A2 : Option Addr} {m c j : Nat} (hx : a.eval x = .slice A m c) (hy : a.eval y = .int .i64 (j : Int))
    (h : ∀ w, (Instr.sliceAt 25 (.slice A m c) (some (.int .i64 (j : Int))) none none).run Try.prog w = .ok (.slice A2 (m - j) (c - j)) w) (w : World) :
    (execOp a.eval o).run Try.prog w = .ok (.value (.slice A2 (m - j) (c - j))) w := by
  simp [execOp, ho, hx, hy, h]
def RS (w : World) (l : List D2) (x3 x4 : Value) (wr : World) : Prop :=
  ∃ (k : Nat) (A : Option Addr) (c : Nat), k ≤ l.length ∧ x4 = .int .i64 (k : Int) ∧ x3 = .slice A (sortD (l.take k)).length c ∧ (A = none → sortD (l.take k) = [] ∧ c = 0) ∧ (sortD (l.take k)).length ≤ c ∧ c ≤ maxLen ∧ Sl wr wr.heap.size A (dv (sortD (l.take k))) ∧ Below w.heap.size w wr
set_option maxRecDepth 100000 in
set_option maxHeartbeats 1600000 in
theorem RefSort_any (w : World) (A : Option Addr) (n c : Nat) (l : List D2) (hb : Sl w w.heap.size A (dv l)) (h0 : n = l.length) (hl : n ≤ 100000000) :
    Calls Try.prog 15 #[.slice A n c] w (DRow w (sortD l)) := by
  have HN := Lib.hid h0
  clear h0
  go_enter Try.func15, Try.ntmps15
  go_wp2_with fail
  go_loopw [3, 4] (fun x3 x4 wr => RS w l x3 x4 wr) (fun _ x4 _ => n - (intOf x4).toNat)
  case atStart => exact ⟨0, none, 0, by omega, rfl, rfl, fun _ => ⟨rfl, rfl⟩, by simp [sortD], by simp [maxLen], .inl rfl, Below.refl _ _⟩
  case round =>
    obtain ⟨k, A3, c3, hk, rfl, rfl, hnil, hc3, hcm, hS, hbel⟩ := hrel
    obtain ⟨wo, hwo⟩ : ∃ wo, wo = wr := ⟨_, rfl⟩
    subst hwo
    obtain ⟨o, ho⟩ : ∃ o, sortD (l.take k) = o := ⟨_, rfl⟩
    obtain ⟨m, hm⟩ : ∃ m, o.length = m := ⟨_, rfl⟩
    have hmk : m ≤ k := by
      have := sortD_len (l.take k)
      rw [ho, hm, List.length_take] at this
      omega
    rw [ho] at hnil hc3 hS ⊢
    rw [hm] at hc3 ⊢
    replace hnil : A3 = none → m = 0 ∧ c3 = 0 := fun e => ⟨by rw [← hm, (hnil e).1]; rfl, (hnil e).2⟩
    by_cases hlt : k < n
    · have hkl : k < l.length := by have := HN.out; omega
      obtain ⟨b, p, rfl, hb1, hb2, c0, c1⟩ := dotAt hb hkl
      have hsn := sortD_snoc hkl
      rw [ho] at hsn
      replace c0 := (hbel.cell hb2).trans c0
      replace c1 := (hbel.cell hb2).trans c1
      have hb2' := Nat.lt_of_lt_of_le hb2 hbel.size
      generalize l[k]?.getD ⟨0, 0⟩ = x at *
      have hd1 : decide ((k : Int) < (n : Int)) = true := by rw [decide_eq_true_eq]; omega
      have HO := Lib.hid (And.intro hsn (And.intro ho hm))
      clear hsn ho hb hk hkl hm hb1 hb2
      go_wp2_with fail
      go_loopw [5] (fun x5 w2 => ∃ j : Nat, j ≤ m ∧ x5 = .int .i64 (j : Int) ∧ (∀ i, i < j → (o[i]?.getD ⟨0, 0⟩).lt x = true) ∧ Below wo.heap.size wo w2) (fun x5 _ => m - (intOf x5).toNat)
      case atStart => exact ⟨0, by omega, rfl, by omega, Below.refl _ _⟩
      case round =>
        obtain ⟨j, hj, rfl, hall, hbel2⟩ := hrel
        by_cases hlt2 : j < m
        · have hjo : j < o.length := by have := HO.out.2.2; omega
          obtain ⟨b3, p3, hA3, hb3, hb4, d0, d1⟩ := dotAt hS hjo
          subst hA3
          replace d0 := (hbel2.cell hb4).trans d0
          replace d1 := (hbel2.cell hb4).trans d1
          have f0 := cellB d0
          have f1 := cellB d1
          have e0 := cellB ((hbel2.cell hb2').trans c0)
          have e1 := cellB ((hbel2.cell hb2').trans c1)
          have hins := insD_at o x j (by omega) hall
          obtain ⟨y, hy⟩ : ∃ y, o[j]?.getD ⟨0, 0⟩ = y := ⟨_, rfl⟩
          rw [hy] at d0 d1 f0 f1 hins
          obtain ⟨q, hq⟩ : ∃ q, y.lt x = q := ⟨_, rfl⟩
          have HL := Lib.hid (fun W => RDLess_any W y x)
          rw [hq] at HL hins
          unfold D2.v at HL
          have hall2 : q = true → ∀ i, i < j + 1 → (o[i]?.getD ⟨0, 0⟩).lt x = true := fun e i hi => by
            rcases Nat.lt_succ_iff_lt_or_eq.1 hi with h | rfl
            · exact hall i h
            · rw [hy, hq, e]
          have HQ := Lib.hid (And.intro hall2 hins)
          have hd2 : decide ((j : Int) < (m : Int)) = true := by rw [decide_eq_true_eq]; omega
          have hx0 : (0 : Int) ≤ (j : Int) := by omega
          have hx1 : (j : Int) < (m : Int) := by omega
          have hx2 : (0 : Int) ≤ (k : Int) := by omega
          have hx3 : (k : Int) < (n : Int) := by omega
          clear hall hall2 hins hy hq
          go_wp2_with fail
          refine bstart (by kernel_rfl) ?_
          refine btake 0 (oi := _) (v := ?_) (by simp only [List.getElem?_toArray, List.getElem?_cons_zero]; rfl) (by kernel_rfl) (by exact fun _ _ _ h => h) (by first | assumption | exact KB.refl _) (.inl ⟨by rfl, fun W hW => ?_⟩) ?_; rotate_left
          · (go_simp; first | done | with_reducible rfl)
          try simp only [Act.put, List.setIfInBounds_toArray, List.set_cons_zero, List.set_cons_succ]
          refine btake 1 (oi := _) (v := ?_) (by simp only [List.getElem?_toArray, List.getElem?_cons_succ, List.getElem?_cons_zero]; rfl) (by kernel_rfl) (by exact fun _ _ _ h => h) (by first | assumption | exact KB.refl _) (.inl ⟨by rfl, fun W hW => ?_⟩) ?_; rotate_left
          · (go_simp; first | done | with_reducible rfl)
          try simp only [Act.put, List.setIfInBounds_toArray, List.set_cons_zero, List.set_cons_succ]
          refine btake 2 (oi := _) (v := ?_) (by simp only [List.getElem?_toArray, List.getElem?_cons_succ, List.getElem?_cons_zero]; rfl) (by kernel_rfl) (by exact fun _ _ _ h => h) (by first | assumption | exact KB.refl _) (.inl ⟨by rfl, fun W hW => ?_⟩) ?_; rotate_left
          · (go_simp; first | done | with_reducible rfl)
          try simp only [Act.put, List.setIfInBounds_toArray, List.set_cons_zero, List.set_cons_succ]
          refine btake 3 (oi := _) (v := ?_) (by simp only [List.getElem?_toArray, List.getElem?_cons_succ, List.getElem?_cons_zero]; rfl) (by kernel_rfl) (by exact fun _ _ _ h => h) (by first | assumption | exact KB.refl _) (.inl ⟨by rfl, fun W hW => ?_⟩) ?_; rotate_left
          · (go_simp; first | done | with_reducible rfl)
          try simp only [Act.put, List.setIfInBounds_toArray, List.set_cons_zero, List.set_cons_succ]
          refine btake 4 (oi := _) (v := ?_) (by simp only [List.getElem?_toArray, List.getElem?_cons_succ, List.getElem?_cons_zero]; rfl) (by kernel_rfl) (by exact fun _ _ _ h => h) (by first | assumption | exact KB.refl _) (.inl ⟨by rfl, fun W hW => ?_⟩) ?_; rotate_left
          · (go_simp; first | done | with_reducible rfl)
          try simp only [Act.put, List.setIfInBounds_toArray, List.set_cons_zero, List.set_cons_succ]
          refine btake 5 (oi := _) (v := ?_) (by simp only [List.getElem?_toArray, List.getElem?_cons_succ, List.getElem?_cons_zero]; rfl) (by kernel_rfl) (by exact fun _ _ _ h => h) (by first | assumption | exact KB.refl _) (.inl ⟨by rfl, fun W hW => ?_⟩) ?_; rotate_left
          · (go_simp; first | done | with_reducible rfl)
          try simp only [Act.put, List.setIfInBounds_toArray, List.set_cons_zero, List.set_cons_succ]
          refine btake 6 (oi := _) (v := ?_) (by simp only [List.getElem?_toArray, List.getElem?_cons_succ, List.getElem?_cons_zero]; rfl) (by kernel_rfl) (by exact fun _ _ _ h => h) (by first | assumption | exact KB.refl _) (.inl ⟨by rfl, fun W hW => ?_⟩) ?_; rotate_left
          · (go_simp; first | done | with_reducible rfl)
          try simp only [Act.put, List.setIfInBounds_toArray, List.set_cons_zero, List.set_cons_succ]
          refine btake 7 (oi := _) (v := ?_) (by simp only [List.getElem?_toArray, List.getElem?_cons_succ, List.getElem?_cons_zero]; rfl) (by kernel_rfl) (by exact fun _ _ _ h => h) (by first | assumption | exact KB.refl _) (.inl ⟨by rfl, fun W hW => ?_⟩) ?_; rotate_left
          · (go_simp; first | done | with_reducible rfl)
          try simp only [Act.put, List.setIfInBounds_toArray, List.set_cons_zero, List.set_cons_succ]
          refine btake 8 (oi := _) (v := ?_) (by simp only [List.getElem?_toArray, List.getElem?_cons_succ, List.getElem?_cons_zero]; rfl) (by kernel_rfl) (by exact fun _ _ _ h => h) (by first | assumption | exact KB.refl _) (.inl ⟨by rfl, fun W hW => ?_⟩) ?_; rotate_left
          · (go_simp; first | done | with_reducible rfl)
          try simp only [Act.put, List.setIfInBounds_toArray, List.set_cons_zero, List.set_cons_succ]
          refine btake 9 (oi := _) (v := ?_) (by simp only [List.getElem?_toArray, List.getElem?_cons_succ, List.getElem?_cons_zero]; rfl) (by kernel_rfl) (by exact fun _ _ _ h => h) (by first | assumption | exact KB.refl _) (.inl ⟨by rfl, fun W hW => ?_⟩) ?_; rotate_left
          · (go_simp; first | done | with_reducible rfl)
          try simp only [Act.put, List.setIfInBounds_toArray, List.set_cons_zero, List.set_cons_succ]
          refine btake 10 (oi := _) (v := ?_) (by simp only [List.getElem?_toArray, List.getElem?_cons_succ, List.getElem?_cons_zero]; rfl) (by kernel_rfl) (by exact fun _ _ _ h => h) (by first | assumption | exact KB.refl _) (.inl ⟨by rfl, fun W hW => ?_⟩) ?_; rotate_left
          · (go_simp; first | done | with_reducible rfl)
          try simp only [Act.put, List.setIfInBounds_toArray, List.set_cons_zero, List.set_cons_succ]
          refine btake 11 (oi := _) (v := ?_) (by simp only [List.getElem?_toArray, List.getElem?_cons_succ, List.getElem?_cons_zero]; rfl) (by kernel_rfl) (by exact fun _ _ _ h => h) (by first | assumption | exact KB.refl _) (.inl ⟨by rfl, fun W hW => ?_⟩) ?_; rotate_left
          · (go_simp; first | done | with_reducible rfl)
          try simp only [Act.put, List.setIfInBounds_toArray, List.set_cons_zero, List.set_cons_succ]
          refine btake 12 (oi := _) (v := ?_) (by simp only [List.getElem?_toArray, List.getElem?_cons_succ, List.getElem?_cons_zero]; rfl) (by kernel_rfl) (by exact fun _ _ _ h => h) (by first | assumption | exact KB.refl _) (.inl ⟨by rfl, fun W hW => ?_⟩) ?_; rotate_left
          · (go_simp; first | done | with_reducible rfl)
          try simp only [Act.put, List.setIfInBounds_toArray, List.set_cons_zero, List.set_cons_succ]
          -- 13: newsreel/newsreelref1.DotLess
          refine bop 13 (o := _) (by simp only [List.getElem?_toArray, List.getElem?_cons_succ, List.getElem?_cons_zero]; rfl) (by kernel_rfl) (by first | assumption | exact KB.refl _) (by rfl) (fun K hK => ?_)
          go_simp
          refine (HL.out _).mono ?_
          rintro e w5 ⟨rfl, h5⟩
          have hkb := KB.of h5
          refine hK.out _ _ hkb ?_; clear hK K
          try simp only [Act.put, List.setIfInBounds_toArray, List.set_cons_zero, List.set_cons_succ]
          refine btake 14 (oi := _) (v := ?_) (by simp only [List.getElem?_toArray, List.getElem?_cons_succ, List.getElem?_cons_zero]; rfl) (by kernel_rfl) (by exact fun _ _ _ h => h) (by first | assumption | exact KB.refl _) (.inl ⟨by rfl, fun W hW => ?_⟩) ?_; rotate_left
          · (go_simp; first | done | with_reducible rfl)
          try simp only [Act.put, List.setIfInBounds_toArray, List.set_cons_zero, List.set_cons_succ]
          refine bdone (by kernel_rfl) ?_
          have h25 : Below wr.heap.size wr w5 := (Below.refl _ wr).drew.trans h5
          have hb4' : b3 < wr.heap.size := Nat.lt_of_lt_of_le hb4 hbel2.size
          replace d0 := (h25.cell hb4').trans d0
          replace d1 := (h25.cell hb4').trans d1
          have hbel5 := hbel2.trans (h25.mono hbel2.size)
          clear hkb f0 f1 e0 e1 h5 h25 hbel2 HL hb4'
          cases q with
          | true =>
            go_wp2_with fail
            go_roundw
            case rel => exact ⟨j + 1, hlt2, by go_num, HQ.out.1 rfl, hbel5⟩
            case measure => simp [intOf]; omega
          | false =>
            have hins := HQ.out.2 (.inr rfl)
            clear HQ
            have f0 := cellB d0
            have f1 := cellB d1
            have e0 := cellB ((hbel5.cell hb2').trans c0)
            have e1 := cellB ((hbel5.cell hb2').trans c1)
            obtain ⟨r, hr⟩ : ∃ r, decide (y = x) = r := ⟨_, rfl⟩
            have heq := fun W => ne2 W y x
            rw [hr] at heq
            unfold D2.v at heq
            have hdm : ((j : Int) == (m : Int)) = false := by rw [beq_eq_false_iff_ne]; omega
            have hjm : ¬ j = m := by omega
            have hjm' : ¬ (j : Int) = (m : Int) := by omega
            go_wp2_with fail
            refine bstart (by kernel_rfl) ?_
            refine btake 0 (oi := _) (v := ?_) (by simp only [List.getElem?_toArray, List.getElem?_cons_zero]; rfl) (by kernel_rfl) (by exact fun _ _ _ h => h) (by first | assumption | exact KB.refl _) (.inl ⟨by rfl, fun W hW => ?_⟩) ?_; rotate_left
            · (go_simp; first | done | with_reducible rfl)
            try simp only [Act.put, List.setIfInBounds_toArray, List.set_cons_zero, List.set_cons_succ]
            refine btake 1 (oi := _) (v := ?_) (by simp only [List.getElem?_toArray, List.getElem?_cons_succ, List.getElem?_cons_zero]; rfl) (by kernel_rfl) (by exact fun _ _ _ h => h) (by first | assumption | exact KB.refl _) (.inl ⟨by rfl, fun W hW => ?_⟩) ?_; rotate_left
            · (go_simp; first | done | with_reducible rfl)
            try simp only [Act.put, List.setIfInBounds_toArray, List.set_cons_zero, List.set_cons_succ]
            refine btake 2 (oi := _) (v := ?_) (by simp only [List.getElem?_toArray, List.getElem?_cons_succ, List.getElem?_cons_zero]; rfl) (by kernel_rfl) (by exact fun _ _ _ h => h) (by first | assumption | exact KB.refl _) (.inl ⟨by rfl, fun W hW => ?_⟩) ?_; rotate_left
            · (go_simp; first | done | with_reducible rfl)
            try simp only [Act.put, List.setIfInBounds_toArray, List.set_cons_zero, List.set_cons_succ]
            refine btake 3 (oi := _) (v := ?_) (by simp only [List.getElem?_toArray, List.getElem?_cons_succ, List.getElem?_cons_zero]; rfl) (by kernel_rfl) (by exact fun _ _ _ h => h) (by first | assumption | exact KB.refl _) (.inl ⟨by rfl, fun W hW => ?_⟩) ?_; rotate_left
            · (go_simp; first | done | with_reducible rfl)
            try simp only [Act.put, List.setIfInBounds_toArray, List.set_cons_zero, List.set_cons_succ]
            refine btake 4 (oi := _) (v := ?_) (by simp only [List.getElem?_toArray, List.getElem?_cons_succ, List.getElem?_cons_zero]; rfl) (by kernel_rfl) (by exact fun _ _ _ h => h) (by first | assumption | exact KB.refl _) (.inl ⟨by rfl, fun W hW => ?_⟩) ?_; rotate_left
            · (go_simp; first | done | with_reducible rfl)
            try simp only [Act.put, List.setIfInBounds_toArray, List.set_cons_zero, List.set_cons_succ]
            refine btake 5 (oi := _) (v := ?_) (by simp only [List.getElem?_toArray, List.getElem?_cons_succ, List.getElem?_cons_zero]; rfl) (by kernel_rfl) (by exact fun _ _ _ h => h) (by first | assumption | exact KB.refl _) (.inl ⟨by rfl, fun W hW => ?_⟩) ?_; rotate_left
            · (go_simp; first | done | with_reducible rfl)
            try simp only [Act.put, List.setIfInBounds_toArray, List.set_cons_zero, List.set_cons_succ]
            refine btake 6 (oi := _) (v := ?_) (by simp only [List.getElem?_toArray, List.getElem?_cons_succ, List.getElem?_cons_zero]; rfl) (by kernel_rfl) (by exact fun _ _ _ h => h) (by first | assumption | exact KB.refl _) (.inl ⟨by rfl, fun W hW => ?_⟩) ?_; rotate_left
            · (go_simp; first | done | with_reducible rfl)
            try simp only [Act.put, List.setIfInBounds_toArray, List.set_cons_zero, List.set_cons_succ]
            refine btake 7 (oi := _) (v := ?_) (by simp only [List.getElem?_toArray, List.getElem?_cons_succ, List.getElem?_cons_zero]; rfl) (by kernel_rfl) (by exact fun _ _ _ h => h) (by first | assumption | exact KB.refl _) (.inl ⟨by rfl, fun W hW => ?_⟩) ?_; rotate_left
            · (go_simp; first | done | with_reducible rfl)
            try simp only [Act.put, List.setIfInBounds_toArray, List.set_cons_zero, List.set_cons_succ]
            refine btake 8 (oi := _) (v := ?_) (by simp only [List.getElem?_toArray, List.getElem?_cons_succ, List.getElem?_cons_zero]; rfl) (by kernel_rfl) (by exact fun _ _ _ h => h) (by first | assumption | exact KB.refl _) (.inl ⟨by rfl, fun W hW => ?_⟩) ?_; rotate_left
            · (go_simp; first | done | with_reducible rfl)
            try simp only [Act.put, List.setIfInBounds_toArray, List.set_cons_zero, List.set_cons_succ]
            refine btake 9 (oi := _) (v := ?_) (by simp only [List.getElem?_toArray, List.getElem?_cons_succ, List.getElem?_cons_zero]; rfl) (by kernel_rfl) (by exact fun _ _ _ h => h) (by first | assumption | exact KB.refl _) (.inl ⟨by rfl, fun W hW => ?_⟩) ?_; rotate_left
            · (go_simp; first | done | with_reducible rfl)
            try simp only [Act.put, List.setIfInBounds_toArray, List.set_cons_zero, List.set_cons_succ]
            refine btake 10 (oi := _) (v := ?_) (by simp only [List.getElem?_toArray, List.getElem?_cons_succ, List.getElem?_cons_zero]; rfl) (by kernel_rfl) (by exact fun _ _ _ h => h) (by first | assumption | exact KB.refl _) (.inl ⟨by rfl, fun W hW => ?_⟩) ?_; rotate_left
            · (go_simp; first | done | with_reducible rfl)
            try simp only [Act.put, List.setIfInBounds_toArray, List.set_cons_zero, List.set_cons_succ]
            refine btake 11 (oi := _) (v := ?_) (by simp only [List.getElem?_toArray, List.getElem?_cons_succ, List.getElem?_cons_zero]; rfl) (by kernel_rfl) (by exact fun _ _ _ h => h) (by first | assumption | exact KB.refl _) (.inl ⟨by rfl, fun W hW => ?_⟩) ?_; rotate_left
            · (go_simp; first | done | with_reducible rfl)
            try simp only [Act.put, List.setIfInBounds_toArray, List.set_cons_zero, List.set_cons_succ]
            refine btake 12 (oi := _) (v := ?_) (by simp only [List.getElem?_toArray, List.getElem?_cons_succ, List.getElem?_cons_zero]; rfl) (by kernel_rfl) (by exact fun _ _ _ h => h) (by first | assumption | exact KB.refl _) (.inl ⟨by rfl, fun W hW => ?_⟩) ?_; rotate_left
            · (go_simp; first | done | with_reducible rfl)
            try simp only [Act.put, List.setIfInBounds_toArray, List.set_cons_zero, List.set_cons_succ]
            refine btake 13 (oi := _) (v := ?_) (by simp only [List.getElem?_toArray, List.getElem?_cons_succ, List.getElem?_cons_zero]; rfl) (by kernel_rfl) (by exact fun _ _ _ h => h) (by first | assumption | exact KB.refl _) (.inl ⟨by rfl, fun W hW => ?_⟩) ?_; rotate_left
            · (go_simp; first | done | with_reducible rfl)
            try simp only [Act.put, List.setIfInBounds_toArray, List.set_cons_zero, List.set_cons_succ]
            refine btake 14 (oi := _) (v := ?_) (by simp only [List.getElem?_toArray, List.getElem?_cons_succ, List.getElem?_cons_zero]; rfl) (by kernel_rfl) (by exact fun _ _ _ h => h) (by first | assumption | exact KB.refl _) (.inl ⟨by rfl, fun W hW => ?_⟩) ?_; rotate_left
            · (go_simp; first | done | with_reducible rfl)
            try simp only [Act.put, List.setIfInBounds_toArray, List.set_cons_zero, List.set_cons_succ]
            refine bdone (by kernel_rfl) ?_
            have hbq := hbel5.drew
            clear f0 f1 e0 e1 d0 d1 heq hbel5
            by_cases hyx : y = x
            · obtain rfl : r = true := by rw [← hr, decide_eq_true_eq]; exact hyx
              rw [if_pos ⟨hjo, hyx⟩] at hins
              have HF := Lib.hid hins
              clear hr hins
              go_wp2_with fail
              go_roundw
              case rel =>
                have hso := HO.out.1.trans HF.out
                refine ⟨k + 1, some ⟨b3, p3, none⟩, c3, by have := HN.out; omega, by go_num, by rw [hso, HO.out.2.2], (fun e => by cases e), by rw [hso, HO.out.2.2]; exact hc3, hcm, by rw [hso]; exact (hS.below hbq).more hbq.size, hbel.trans (hbq.mono hbel.size)⟩
              case measure => simp [intOf]; omega
            · obtain rfl : r = false := by rw [← hr, decide_eq_false_iff_not]; exact hyx
              rw [if_neg (fun h => hyx h.2), List.append_assoc] at hins
              clear hr
              generalize w5.drew = wq at hbq ⊢
              generalize (some (⟨b3, p3, none⟩ : Addr)) = A3 at *
              obtain ⟨A2, hs2, hS2⟩ := sl_post A3 m c3 j hj hc3
              have hSo := (hS.below hbq).more hbq.size
              have hSp : Sl wq wq.heap.size A3 (dv (o.take j)) := by rw [← dv_take]; exact hSo.tk _
              have hSd := hS2 wq wq.heap.size o HO.out.2.2 hSo
              have e0 := cellB ((hbq.cell hb2').trans c0)
              have e1 := cellB ((hbq.cell hb2').trans c1)
              have hx0 : (0 : Int) ≤ (j : Int) := by omega
              have hx2 : (0 : Int) ≤ (k : Int) := by omega
              have hx3 : (k : Int) < (n : Int) := by omega
              have hbl : Below wq.heap.size wq (wq.drew.alloc (.cells #[.int .i64 x.r, .int .i64 x.q] 23)) := (Below.refl wq.heap.size wq).drew.alloc (Nat.le_refl _) _
              have hol := OwnD.lit wq.drew 25 x
              have hTL : (o.take j).length = j := by rw [List.length_take]; have := HO.out.2.2; omega
              have hDL : (o.drop j).length = m - j := by rw [List.length_drop]; have := HO.out.2.2; omega
              have hmn : m ≤ 100000000 := by omega
              clear c0 c1 hSo
              go_wp2_with fail
              have hS0 : KB wq.heap wq.drew := KB.refl wq
              refine bstartH (wq.heap) (by kernel_rfl) ?_
              refine btake 0 (oi := _) (v := ?_) (by simp only [List.getElem?_toArray, List.getElem?_cons_zero]; rfl) (by kernel_rfl) (by exact fun _ _ _ h => h) (by first | assumption | exact KB.refl _) (.inl ⟨by rfl, fun W hW => ?_⟩) ?_; rotate_left
              · (go_simp; first | done | with_reducible rfl)
              try simp only [Act.put, List.setIfInBounds_toArray, List.set_cons_zero, List.set_cons_succ]
              refine btake 1 (oi := _) (v := ?_) (by simp only [List.getElem?_toArray, List.getElem?_cons_succ, List.getElem?_cons_zero]; rfl) (by kernel_rfl) (by exact fun _ _ _ h => h) (by first | assumption | exact KB.refl _) (.inl ⟨by rfl, fun W hW => ?_⟩) ?_; rotate_left
              · (go_simp; first | done | with_reducible rfl)
              try simp only [Act.put, List.setIfInBounds_toArray, List.set_cons_zero, List.set_cons_succ]
              refine btake 2 (oi := _) (v := ?_) (by simp only [List.getElem?_toArray, List.getElem?_cons_succ, List.getElem?_cons_zero]; rfl) (by kernel_rfl) (by exact fun _ _ _ h => h) (by first | assumption | exact KB.refl _) (.inl ⟨by rfl, fun W hW => ?_⟩) ?_; rotate_left
              · (go_simp; first | done | with_reducible rfl)
              try simp only [Act.put, List.setIfInBounds_toArray, List.set_cons_zero, List.set_cons_succ]
              refine btake 3 (oi := _) (v := ?_) (by simp only [List.getElem?_toArray, List.getElem?_cons_succ, List.getElem?_cons_zero]; rfl) (by kernel_rfl) (by exact fun _ _ _ h => h) (by first | assumption | exact KB.refl _) (.inl ⟨by rfl, fun W hW => ?_⟩) ?_; rotate_left
              · refine exec_pre (x := .tmp 44) (y := .tmp 45) (z := .tmp 46) (A := A3) (m := m) (c := c3) (j := j) ?_ ?_ ?_ ?_ (by omega) _ <;> rfl
              try simp only [Act.put, List.setIfInBounds_toArray, List.set_cons_zero, List.set_cons_succ]
              refine btake 4 (oi := _) (v := ?_) (by simp only [List.getElem?_toArray, List.getElem?_cons_succ, List.getElem?_cons_zero]; rfl) (by kernel_rfl) (by exact fun _ _ _ h => h) (by first | assumption | exact KB.refl _) (.inl ⟨by rfl, fun W hW => ?_⟩) ?_; rotate_left
              · (go_simp; first | done | with_reducible rfl)
              try simp only [Act.put, List.setIfInBounds_toArray, List.set_cons_zero, List.set_cons_succ]
              refine btake 5 (oi := _) (v := ?_) (by simp only [List.getElem?_toArray, List.getElem?_cons_succ, List.getElem?_cons_zero]; rfl) (by kernel_rfl) (by exact fun _ _ _ h => h) (by first | assumption | exact KB.refl _) (.inl ⟨by rfl, fun W hW => ?_⟩) ?_; rotate_left
              · (go_simp; first | done | with_reducible rfl)
              try simp only [Act.put, List.setIfInBounds_toArray, List.set_cons_zero, List.set_cons_succ]
              refine btake 6 (oi := _) (v := ?_) (by simp only [List.getElem?_toArray, List.getElem?_cons_succ, List.getElem?_cons_zero]; rfl) (by kernel_rfl) (by exact fun _ _ _ h => h) (by first | assumption | exact KB.refl _) (.inl ⟨by rfl, fun W hW => ?_⟩) ?_; rotate_left
              · (go_simp; first | done | with_reducible rfl)
              try simp only [Act.put, List.setIfInBounds_toArray, List.set_cons_zero, List.set_cons_succ]
              refine btake 7 (oi := _) (v := ?_) (by simp only [List.getElem?_toArray, List.getElem?_cons_succ, List.getElem?_cons_zero]; rfl) (by kernel_rfl) (by exact fun _ _ _ h => h) (by first | assumption | exact KB.refl _) (.inl ⟨by rfl, fun W hW => ?_⟩) ?_; rotate_left
              · (go_simp; first | done | with_reducible rfl)
              try simp only [Act.put, List.setIfInBounds_toArray, List.set_cons_zero, List.set_cons_succ]
              refine btake 9 (oi := _) (v := ?_) (by simp only [List.getElem?_toArray, List.getElem?_cons_succ, List.getElem?_cons_zero]; rfl) (by kernel_rfl) (by exact fun _ _ _ h => h) (by first | assumption | exact KB.refl _) (.inl ⟨by rfl, fun W hW => ?_⟩) ?_; rotate_left
              · (go_simp; first | done | with_reducible rfl)
              try simp only [Act.put, List.setIfInBounds_toArray, List.set_cons_zero, List.set_cons_succ]
              refine btake 10 (oi := _) (v := ?_) (by simp only [List.getElem?_toArray, List.getElem?_cons_succ, List.getElem?_cons_zero]; rfl) (by kernel_rfl) (by exact fun _ _ _ h => h) (by first | assumption | exact KB.refl _) (.inl ⟨by rfl, fun W hW => ?_⟩) ?_; rotate_left
              · (go_simp; first | done | with_reducible rfl)
              try simp only [Act.put, List.setIfInBounds_toArray, List.set_cons_zero, List.set_cons_succ]
              refine btake 11 (oi := _) (v := ?_) (by simp only [List.getElem?_toArray, List.getElem?_cons_succ, List.getElem?_cons_zero]; rfl) (by kernel_rfl) (by exact fun _ _ _ h => h) (by first | assumption | exact KB.refl _) (.inl ⟨by rfl, fun W hW => ?_⟩) ?_; rotate_left
              · refine exec_post (x := .tmp 53) (y := .tmp 54) (A := A3) (m := m) (c := c3) (j := j) ?_ ?_ ?_ hs2 _ <;> rfl
              try simp only [Act.put, List.setIfInBounds_toArray, List.set_cons_zero, List.set_cons_succ]
              -- 8: Op.buildSlice 25 1 #[(0, Operand.tmp 51)]
              refine bopH 8 (o := _) (by simp only [List.getElem?_toArray, List.getElem?_cons_succ, List.getElem?_cons_zero]; rfl) (by kernel_rfl) (by first | assumption | exact KB.refl _) (by rfl) (fun K hK => ?_)
              go_simp
              have hkb := KB.alloc wq.drew (.cells #[.int .i64 x.r, .int .i64 x.q] 23)
              refine hK.out _ _ hkb ?_; clear hK K
              try simp only [Act.put, List.setIfInBounds_toArray, List.set_cons_zero, List.set_cons_succ]
              -- 12: Op.call { callee := Callee.builtin Builtin.append, args := #[Operand.tmp 52, Operand.tmp 55], argTypes := #[25, 25] }
              refine bopH 12 (o := _) (by simp only [List.getElem?_toArray, List.getElem?_cons_succ, List.getElem?_cons_zero]; rfl) (by kernel_rfl) (by first | assumption | exact KB.refl _) (by rfl) (fun K hK => ?_)
              refine wp_appD rfl hol (hSd.below hbl) hDL.symm rfl rfl (by rw [hDL, List.length_singleton]; omega) (by simp) ?_
              intro v5 w5 hown5 hg5 hat5
              have hb5 := own_belowD hbl hbl.size hol hg5
              obtain ⟨A5, c5, rfl, _, _, hs5, _⟩ := hown5.form
              have hkb := KB.of hb5
              refine hK.out _ _ hkb ?_; clear hK K
              try simp only [Act.put, List.setIfInBounds_toArray, List.set_cons_zero, List.set_cons_succ]
              -- 13: Op.call { callee := Callee.builtin Builtin.append, args := #[Operand.tmp 47, Operand.tmp 56], argTypes := #[25, 25] }
              refine bopH 13 (o := _) (by simp only [List.getElem?_toArray, List.getElem?_cons_succ, List.getElem?_cons_zero]; rfl) (by kernel_rfl) (by first | assumption | exact KB.refl _) (by rfl) (fun K hK => ?_)
              refine wp_appFD rfl (hSp.below hb5) hTL.symm hs5 rfl rfl rfl (by simp) (fun e => by have := hnil e; omega) (Nat.le_refl _) (by simp [hTL, hDL]; omega) ?_
              intro v6 w6 hown6 hg6
              have hb6 := hb5.trans ((below_none hg6).mono hb5.size)
              obtain ⟨A6, c6, rfl, hle6, hcm6, hs6, hn6, _⟩ := hown6.form
              have hkb := KB.of hb6
              refine hK.out _ _ hkb ?_; clear hK K
              try simp only [Act.put, List.setIfInBounds_toArray, List.set_cons_zero, List.set_cons_succ]
              refine btake 14 (oi := _) (v := ?_) (by simp only [List.getElem?_toArray, List.getElem?_cons_succ, List.getElem?_cons_zero]; rfl) (by kernel_rfl) (by exact fun _ _ _ h => h) (by first | assumption | exact KB.refl _) (.inl ⟨by rfl, fun W hW => ?_⟩) ?_; rotate_left
              · (go_simp; first | done | with_reducible rfl)
              try simp only [Act.put, List.setIfInBounds_toArray, List.set_cons_zero, List.set_cons_succ]
              refine bdone (by kernel_rfl) ?_
              have hb7 := hbel.trans ((hbq.trans (hb6.mono hbq.size)).mono hbel.size)
              have HF := Lib.hid (And.intro hle6 (And.intro hcm6 (And.intro hs6 (And.intro hn6 (And.intro hb7 hins)))))
              clear hkb hS0 hs2 hS2 hSp hSd e0 e1 hbl hol hown5 hown6 hs5 hs6 hb5 hb6 hb7 hg5 hg6 hat5 hle6 hn6 hins
              go_wp2_with fail
              go_roundw
              case rel =>
                obtain ⟨z1, z2, z3, z4, z5, z6⟩ := HF.out
                have hso := HO.out.1.trans z6
                refine ⟨k + 1, A6, c6, by have := HN.out; omega, by go_num, (by rw [hso]; simp only [List.length_append, hTL, hDL, List.length_cons, List.length_nil] <;> (congr 1; omega)), fun e => ?_, by rw [hso]; exact z1, z2, by rw [hso]; exact z3, z5⟩
                have := congrArg List.length (z4 e)
                simp at this
              case measure => simp [intOf]; omega
        · obtain rfl : j = m := by omega
          have hins := insD_at o x j (by have := HO.out.2.2; omega) hall (.inl HO.out.2.2.symm)
          rw [if_neg (by have := HO.out.2.2; omega), List.append_assoc] at hins
          have hd2 : decide ((j : Int) < (j : Int)) = false := by rw [decide_eq_false_iff_not]; omega
          go_wp2_with fail
          refine bstart (by kernel_rfl) ?_
          refine btake 0 (oi := _) (v := ?_) (by simp only [List.getElem?_toArray, List.getElem?_cons_zero]; rfl) (by kernel_rfl) (by exact fun _ _ _ h => h) (by first | assumption | exact KB.refl _) (.inl ⟨by rfl, fun W hW => ?_⟩) ?_; rotate_left
          · (go_simp; first | done | with_reducible rfl)
          try simp only [Act.put, List.setIfInBounds_toArray, List.set_cons_zero, List.set_cons_succ]
          refine btake 1 (oi := _) (v := ?_) (by simp only [List.getElem?_toArray, List.getElem?_cons_succ, List.getElem?_cons_zero]; rfl) (by kernel_rfl) (by exact fun _ _ _ h => h) (by first | assumption | exact KB.refl _) (.inl ⟨by rfl, fun W hW => ?_⟩) ?_; rotate_left
          · (go_simp; first | done | with_reducible rfl)
          try simp only [Act.put, List.setIfInBounds_toArray, List.set_cons_zero, List.set_cons_succ]
          refine btake 2 (oi := _) (v := ?_) (by simp only [List.getElem?_toArray, List.getElem?_cons_succ, List.getElem?_cons_zero]; rfl) (by kernel_rfl) (by exact fun _ _ _ h => h) (by first | assumption | exact KB.refl _) (.inl ⟨by rfl, fun W hW => ?_⟩) ?_; rotate_left
          · (go_simp; first | done | with_reducible rfl)
          try simp only [Act.put, List.setIfInBounds_toArray, List.set_cons_zero, List.set_cons_succ]
          refine btake 3 (oi := _) (v := ?_) (by simp only [List.getElem?_toArray, List.getElem?_cons_succ, List.getElem?_cons_zero]; rfl) (by kernel_rfl) (by exact fun _ _ _ h => h) (by first | assumption | exact KB.refl _) (.inl ⟨by rfl, fun W hW => ?_⟩) ?_; rotate_left
          · (go_simp; first | done | with_reducible rfl)
          try simp only [Act.put, List.setIfInBounds_toArray, List.set_cons_zero, List.set_cons_succ]
          refine btake 4 (oi := _) (v := ?_) (by simp only [List.getElem?_toArray, List.getElem?_cons_succ, List.getElem?_cons_zero]; rfl) (by kernel_rfl) (by exact fun _ _ _ h => h) (by first | assumption | exact KB.refl _) (.inl ⟨by rfl, fun W hW => ?_⟩) ?_; rotate_left
          · (go_simp; first | done | with_reducible rfl)
          try simp only [Act.put, List.setIfInBounds_toArray, List.set_cons_zero, List.set_cons_succ]
          refine btake 5 (oi := _) (v := undef) (by simp only [List.getElem?_toArray, List.getElem?_cons_succ, List.getElem?_cons_zero]; rfl) (by kernel_rfl) (by exact fun _ _ _ h => h) (by first | assumption | exact KB.refl _) (.inr ⟨by rfl, rfl⟩) ?_
          try simp only [Act.put, List.setIfInBounds_toArray, List.set_cons_zero, List.set_cons_succ]
          refine btake 6 (oi := _) (v := undef) (by simp only [List.getElem?_toArray, List.getElem?_cons_succ, List.getElem?_cons_zero]; rfl) (by kernel_rfl) (by exact fun _ _ _ h => h) (by first | assumption | exact KB.refl _) (.inr ⟨by rfl, rfl⟩) ?_
          try simp only [Act.put, List.setIfInBounds_toArray, List.set_cons_zero, List.set_cons_succ]
          refine btake 7 (oi := _) (v := undef) (by simp only [List.getElem?_toArray, List.getElem?_cons_succ, List.getElem?_cons_zero]; rfl) (by kernel_rfl) (by exact fun _ _ _ h => h) (by first | assumption | exact KB.refl _) (.inr ⟨by rfl, rfl⟩) ?_
          try simp only [Act.put, List.setIfInBounds_toArray, List.set_cons_zero, List.set_cons_succ]
          refine btake 8 (oi := _) (v := undef) (by simp only [List.getElem?_toArray, List.getElem?_cons_succ, List.getElem?_cons_zero]; rfl) (by kernel_rfl) (by exact fun _ _ _ h => h) (by first | assumption | exact KB.refl _) (.inr ⟨by rfl, rfl⟩) ?_
          try simp only [Act.put, List.setIfInBounds_toArray, List.set_cons_zero, List.set_cons_succ]
          refine btake 9 (oi := _) (v := undef) (by simp only [List.getElem?_toArray, List.getElem?_cons_succ, List.getElem?_cons_zero]; rfl) (by kernel_rfl) (by exact fun _ _ _ h => h) (by first | assumption | exact KB.refl _) (.inr ⟨by rfl, rfl⟩) ?_
          try simp only [Act.put, List.setIfInBounds_toArray, List.set_cons_zero, List.set_cons_succ]
          refine btake 10 (oi := _) (v := undef) (by simp only [List.getElem?_toArray, List.getElem?_cons_succ, List.getElem?_cons_zero]; rfl) (by kernel_rfl) (by exact fun _ _ _ h => h) (by first | assumption | exact KB.refl _) (.inr ⟨by rfl, rfl⟩) ?_
          try simp only [Act.put, List.setIfInBounds_toArray, List.set_cons_zero, List.set_cons_succ]
          refine btake 11 (oi := _) (v := undef) (by simp only [List.getElem?_toArray, List.getElem?_cons_succ, List.getElem?_cons_zero]; rfl) (by kernel_rfl) (by exact fun _ _ _ h => h) (by first | assumption | exact KB.refl _) (.inr ⟨by rfl, rfl⟩) ?_
          try simp only [Act.put, List.setIfInBounds_toArray, List.set_cons_zero, List.set_cons_succ]
          refine btake 12 (oi := _) (v := undef) (by simp only [List.getElem?_toArray, List.getElem?_cons_succ, List.getElem?_cons_zero]; rfl) (by kernel_rfl) (by exact fun _ _ _ h => h) (by first | assumption | exact KB.refl _) (.inr ⟨by rfl, rfl⟩) ?_
          try simp only [Act.put, List.setIfInBounds_toArray, List.set_cons_zero, List.set_cons_succ]
          refine btake 13 (oi := _) (v := undef) (by simp only [List.getElem?_toArray, List.getElem?_cons_succ, List.getElem?_cons_zero]; rfl) (by kernel_rfl) (by exact fun _ _ _ h => h) (by first | assumption | exact KB.refl _) (.inr ⟨by rfl, rfl⟩) ?_
          try simp only [Act.put, List.setIfInBounds_toArray, List.set_cons_zero, List.set_cons_succ]
          refine btake 14 (oi := _) (v := ?_) (by simp only [List.getElem?_toArray, List.getElem?_cons_succ, List.getElem?_cons_zero]; rfl) (by kernel_rfl) (by exact fun _ _ _ h => h) (by first | assumption | exact KB.refl _) (.inl ⟨by rfl, fun W hW => ?_⟩) ?_; rotate_left
          · (go_simp; first | done | with_reducible rfl)
          try simp only [Act.put, List.setIfInBounds_toArray, List.set_cons_zero, List.set_cons_succ]
          refine bdone (by kernel_rfl) ?_
          go_wp2_with fail
          refine bstart (by kernel_rfl) ?_
          refine btake 0 (oi := _) (v := ?_) (by simp only [List.getElem?_toArray, List.getElem?_cons_zero]; rfl) (by kernel_rfl) (by exact fun _ _ _ h => h) (by first | assumption | exact KB.refl _) (.inl ⟨by rfl, fun W hW => ?_⟩) ?_; rotate_left
          · (go_simp; first | done | with_reducible rfl)
          try simp only [Act.put, List.setIfInBounds_toArray, List.set_cons_zero, List.set_cons_succ]
          refine btake 1 (oi := _) (v := ?_) (by simp only [List.getElem?_toArray, List.getElem?_cons_succ, List.getElem?_cons_zero]; rfl) (by kernel_rfl) (by exact fun _ _ _ h => h) (by first | assumption | exact KB.refl _) (.inl ⟨by rfl, fun W hW => ?_⟩) ?_; rotate_left
          · (go_simp; first | done | with_reducible rfl)
          try simp only [Act.put, List.setIfInBounds_toArray, List.set_cons_zero, List.set_cons_succ]
          refine btake 2 (oi := _) (v := ?_) (by simp only [List.getElem?_toArray, List.getElem?_cons_succ, List.getElem?_cons_zero]; rfl) (by kernel_rfl) (by exact fun _ _ _ h => h) (by first | assumption | exact KB.refl _) (.inl ⟨by rfl, fun W hW => ?_⟩) ?_; rotate_left
          · (go_simp; first | done | with_reducible rfl)
          try simp only [Act.put, List.setIfInBounds_toArray, List.set_cons_zero, List.set_cons_succ]
          refine btake 3 (oi := _) (v := ?_) (by simp only [List.getElem?_toArray, List.getElem?_cons_succ, List.getElem?_cons_zero]; rfl) (by kernel_rfl) (by exact fun _ _ _ h => h) (by first | assumption | exact KB.refl _) (.inl ⟨by rfl, fun W hW => ?_⟩) ?_; rotate_left
          · (go_simp; first | done | with_reducible rfl)
          try simp only [Act.put, List.setIfInBounds_toArray, List.set_cons_zero, List.set_cons_succ]
          refine btake 4 (oi := _) (v := ?_) (by simp only [List.getElem?_toArray, List.getElem?_cons_succ, List.getElem?_cons_zero]; rfl) (by kernel_rfl) (by exact fun _ _ _ h => h) (by first | assumption | exact KB.refl _) (.inl ⟨by rfl, fun W hW => ?_⟩) ?_; rotate_left
          · (go_simp; first | done | with_reducible rfl)
          try simp only [Act.put, List.setIfInBounds_toArray, List.set_cons_zero, List.set_cons_succ]
          refine btake 5 (oi := _) (v := undef) (by simp only [List.getElem?_toArray, List.getElem?_cons_succ, List.getElem?_cons_zero]; rfl) (by kernel_rfl) (by exact fun _ _ _ h => h) (by first | assumption | exact KB.refl _) (.inr ⟨by rfl, rfl⟩) ?_
          try simp only [Act.put, List.setIfInBounds_toArray, List.set_cons_zero, List.set_cons_succ]
          refine btake 6 (oi := _) (v := undef) (by simp only [List.getElem?_toArray, List.getElem?_cons_succ, List.getElem?_cons_zero]; rfl) (by kernel_rfl) (by exact fun _ _ _ h => h) (by first | assumption | exact KB.refl _) (.inr ⟨by rfl, rfl⟩) ?_
          try simp only [Act.put, List.setIfInBounds_toArray, List.set_cons_zero, List.set_cons_succ]
          refine btake 7 (oi := _) (v := undef) (by simp only [List.getElem?_toArray, List.getElem?_cons_succ, List.getElem?_cons_zero]; rfl) (by kernel_rfl) (by exact fun _ _ _ h => h) (by first | assumption | exact KB.refl _) (.inr ⟨by rfl, rfl⟩) ?_
          try simp only [Act.put, List.setIfInBounds_toArray, List.set_cons_zero, List.set_cons_succ]
          refine btake 8 (oi := _) (v := undef) (by simp only [List.getElem?_toArray, List.getElem?_cons_succ, List.getElem?_cons_zero]; rfl) (by kernel_rfl) (by exact fun _ _ _ h => h) (by first | assumption | exact KB.refl _) (.inr ⟨by rfl, rfl⟩) ?_
          try simp only [Act.put, List.setIfInBounds_toArray, List.set_cons_zero, List.set_cons_succ]
          refine btake 9 (oi := _) (v := undef) (by simp only [List.getElem?_toArray, List.getElem?_cons_succ, List.getElem?_cons_zero]; rfl) (by kernel_rfl) (by exact fun _ _ _ h => h) (by first | assumption | exact KB.refl _) (.inr ⟨by rfl, rfl⟩) ?_
          try simp only [Act.put, List.setIfInBounds_toArray, List.set_cons_zero, List.set_cons_succ]
          refine btake 10 (oi := _) (v := undef) (by simp only [List.getElem?_toArray, List.getElem?_cons_succ, List.getElem?_cons_zero]; rfl) (by kernel_rfl) (by exact fun _ _ _ h => h) (by first | assumption | exact KB.refl _) (.inr ⟨by rfl, rfl⟩) ?_
          try simp only [Act.put, List.setIfInBounds_toArray, List.set_cons_zero, List.set_cons_succ]
          refine btake 11 (oi := _) (v := undef) (by simp only [List.getElem?_toArray, List.getElem?_cons_succ, List.getElem?_cons_zero]; rfl) (by kernel_rfl) (by exact fun _ _ _ h => h) (by first | assumption | exact KB.refl _) (.inr ⟨by rfl, rfl⟩) ?_
          try simp only [Act.put, List.setIfInBounds_toArray, List.set_cons_zero, List.set_cons_succ]
          refine btake 12 (oi := _) (v := undef) (by simp only [List.getElem?_toArray, List.getElem?_cons_succ, List.getElem?_cons_zero]; rfl) (by kernel_rfl) (by exact fun _ _ _ h => h) (by first | assumption | exact KB.refl _) (.inr ⟨by rfl, rfl⟩) ?_
          try simp only [Act.put, List.setIfInBounds_toArray, List.set_cons_zero, List.set_cons_succ]
          refine btake 13 (oi := _) (v := undef) (by simp only [List.getElem?_toArray, List.getElem?_cons_succ, List.getElem?_cons_zero]; rfl) (by kernel_rfl) (by exact fun _ _ _ h => h) (by first | assumption | exact KB.refl _) (.inr ⟨by rfl, rfl⟩) ?_
          try simp only [Act.put, List.setIfInBounds_toArray, List.set_cons_zero, List.set_cons_succ]
          refine btake 14 (oi := _) (v := ?_) (by simp only [List.getElem?_toArray, List.getElem?_cons_succ, List.getElem?_cons_zero]; rfl) (by kernel_rfl) (by exact fun _ _ _ h => h) (by first | assumption | exact KB.refl _) (.inl ⟨by rfl, fun W hW => ?_⟩) ?_; rotate_left
          · (go_simp; first | done | with_reducible rfl)
          try simp only [Act.put, List.setIfInBounds_toArray, List.set_cons_zero, List.set_cons_succ]
          refine bdone (by kernel_rfl) ?_
          have hbq := hbel2.drew.drew
          generalize wr.drew.drew = wq at hbq ⊢
          clear hall
          obtain ⟨A2, hs2, hS2⟩ := sl_post A3 j c3 j hj hc3
          have hSo := (hS.below hbq).more hbq.size
          have hSp : Sl wq wq.heap.size A3 (dv (o.take j)) := by rw [← dv_take]; exact hSo.tk _
          have hSd := hS2 wq wq.heap.size o HO.out.2.2 hSo
          have e0 := cellB ((hbq.cell hb2').trans c0)
          have e1 := cellB ((hbq.cell hb2').trans c1)
          have hx0 : (0 : Int) ≤ (j : Int) := by omega
          have hx2 : (0 : Int) ≤ (k : Int) := by omega
          have hx3 : (k : Int) < (n : Int) := by omega
          have hbl : Below wq.heap.size wq (wq.drew.alloc (.cells #[.int .i64 x.r, .int .i64 x.q] 23)) := (Below.refl wq.heap.size wq).drew.alloc (Nat.le_refl _) _
          have hol := OwnD.lit wq.drew 25 x
          have hTL : (o.take j).length = j := by rw [List.length_take]; have := HO.out.2.2; omega
          have hDL : (o.drop j).length = 0 := by rw [List.length_drop]; have := HO.out.2.2; omega
          have hmn : j ≤ 100000000 := by omega
          clear c0 c1 hSo
          go_wp2_with fail
          have hS0 : KB wq.heap wq.drew := KB.refl wq
          refine bstartH (wq.heap) (by kernel_rfl) ?_
          refine btake 0 (oi := _) (v := ?_) (by simp only [List.getElem?_toArray, List.getElem?_cons_zero]; rfl) (by kernel_rfl) (by exact fun _ _ _ h => h) (by first | assumption | exact KB.refl _) (.inl ⟨by rfl, fun W hW => ?_⟩) ?_; rotate_left
          · (go_simp; first | done | with_reducible rfl)
          try simp only [Act.put, List.setIfInBounds_toArray, List.set_cons_zero, List.set_cons_succ]
          refine btake 1 (oi := _) (v := ?_) (by simp only [List.getElem?_toArray, List.getElem?_cons_succ, List.getElem?_cons_zero]; rfl) (by kernel_rfl) (by exact fun _ _ _ h => h) (by first | assumption | exact KB.refl _) (.inl ⟨by rfl, fun W hW => ?_⟩) ?_; rotate_left
          · (go_simp; first | done | with_reducible rfl)
          try simp only [Act.put, List.setIfInBounds_toArray, List.set_cons_zero, List.set_cons_succ]
          refine btake 2 (oi := _) (v := ?_) (by simp only [List.getElem?_toArray, List.getElem?_cons_succ, List.getElem?_cons_zero]; rfl) (by kernel_rfl) (by exact fun _ _ _ h => h) (by first | assumption | exact KB.refl _) (.inl ⟨by rfl, fun W hW => ?_⟩) ?_; rotate_left
          · (go_simp; first | done | with_reducible rfl)
          try simp only [Act.put, List.setIfInBounds_toArray, List.set_cons_zero, List.set_cons_succ]
          refine btake 3 (oi := _) (v := ?_) (by simp only [List.getElem?_toArray, List.getElem?_cons_succ, List.getElem?_cons_zero]; rfl) (by kernel_rfl) (by exact fun _ _ _ h => h) (by first | assumption | exact KB.refl _) (.inl ⟨by rfl, fun W hW => ?_⟩) ?_; rotate_left
          · refine exec_pre (x := .tmp 44) (y := .tmp 45) (z := .tmp 46) (A := A3) (m := j) (c := c3) (j := j) ?_ ?_ ?_ ?_ (by omega) _ <;> rfl
          try simp only [Act.put, List.setIfInBounds_toArray, List.set_cons_zero, List.set_cons_succ]
          refine btake 4 (oi := _) (v := ?_) (by simp only [List.getElem?_toArray, List.getElem?_cons_succ, List.getElem?_cons_zero]; rfl) (by kernel_rfl) (by exact fun _ _ _ h => h) (by first | assumption | exact KB.refl _) (.inl ⟨by rfl, fun W hW => ?_⟩) ?_; rotate_left
          · (go_simp; first | done | with_reducible rfl)
          try simp only [Act.put, List.setIfInBounds_toArray, List.set_cons_zero, List.set_cons_succ]
          refine btake 5 (oi := _) (v := ?_) (by simp only [List.getElem?_toArray, List.getElem?_cons_succ, List.getElem?_cons_zero]; rfl) (by kernel_rfl) (by exact fun _ _ _ h => h) (by first | assumption | exact KB.refl _) (.inl ⟨by rfl, fun W hW => ?_⟩) ?_; rotate_left
          · (go_simp; first | done | with_reducible rfl)
          try simp only [Act.put, List.setIfInBounds_toArray, List.set_cons_zero, List.set_cons_succ]
          refine btake 6 (oi := _) (v := ?_) (by simp only [List.getElem?_toArray, List.getElem?_cons_succ, List.getElem?_cons_zero]; rfl) (by kernel_rfl) (by exact fun _ _ _ h => h) (by first | assumption | exact KB.refl _) (.inl ⟨by rfl, fun W hW => ?_⟩) ?_; rotate_left
          · (go_simp; first | done | with_reducible rfl)
          try simp only [Act.put, List.setIfInBounds_toArray, List.set_cons_zero, List.set_cons_succ]
          refine btake 7 (oi := _) (v := ?_) (by simp only [List.getElem?_toArray, List.getElem?_cons_succ, List.getElem?_cons_zero]; rfl) (by kernel_rfl) (by exact fun _ _ _ h => h) (by first | assumption | exact KB.refl _) (.inl ⟨by rfl, fun W hW => ?_⟩) ?_; rotate_left
          · (go_simp; first | done | with_reducible rfl)
          try simp only [Act.put, List.setIfInBounds_toArray, List.set_cons_zero, List.set_cons_succ]
          refine btake 9 (oi := _) (v := ?_) (by simp only [List.getElem?_toArray, List.getElem?_cons_succ, List.getElem?_cons_zero]; rfl) (by kernel_rfl) (by exact fun _ _ _ h => h) (by first | assumption | exact KB.refl _) (.inl ⟨by rfl, fun W hW => ?_⟩) ?_; rotate_left
          · (go_simp; first | done | with_reducible rfl)
          try simp only [Act.put, List.setIfInBounds_toArray, List.set_cons_zero, List.set_cons_succ]
          refine btake 10 (oi := _) (v := ?_) (by simp only [List.getElem?_toArray, List.getElem?_cons_succ, List.getElem?_cons_zero]; rfl) (by kernel_rfl) (by exact fun _ _ _ h => h) (by first | assumption | exact KB.refl _) (.inl ⟨by rfl, fun W hW => ?_⟩) ?_; rotate_left
          · (go_simp; first | done | with_reducible rfl)
          try simp only [Act.put, List.setIfInBounds_toArray, List.set_cons_zero, List.set_cons_succ]
          refine btake 11 (oi := _) (v := ?_) (by simp only [List.getElem?_toArray, List.getElem?_cons_succ, List.getElem?_cons_zero]; rfl) (by kernel_rfl) (by exact fun _ _ _ h => h) (by first | assumption | exact KB.refl _) (.inl ⟨by rfl, fun W hW => ?_⟩) ?_; rotate_left
          · refine exec_post (x := .tmp 53) (y := .tmp 54) (A := A3) (m := j) (c := c3) (j := j) ?_ ?_ ?_ hs2 _ <;> rfl
          try simp only [Act.put, List.setIfInBounds_toArray, List.set_cons_zero, List.set_cons_succ]
          -- 8: Op.buildSlice 25 1 #[(0, Operand.tmp 51)]
          refine bopH 8 (o := _) (by simp only [List.getElem?_toArray, List.getElem?_cons_succ, List.getElem?_cons_zero]; rfl) (by kernel_rfl) (by first | assumption | exact KB.refl _) (by rfl) (fun K hK => ?_)
          go_simp
          have hkb := KB.alloc wq.drew (.cells #[.int .i64 x.r, .int .i64 x.q] 23)
          refine hK.out _ _ hkb ?_; clear hK K
          try simp only [Act.put, List.setIfInBounds_toArray, List.set_cons_zero, List.set_cons_succ]
          -- 12: Op.call { callee := Callee.builtin Builtin.append, args := #[Operand.tmp 52, Operand.tmp 55], argTypes := #[25, 25] }
          refine bopH 12 (o := _) (by simp only [List.getElem?_toArray, List.getElem?_cons_succ, List.getElem?_cons_zero]; rfl) (by kernel_rfl) (by first | assumption | exact KB.refl _) (by rfl) (fun K hK => ?_)
          refine wp_appD rfl hol (hSd.below hbl) hDL.symm rfl rfl (by rw [hDL, List.length_singleton]; omega) (by simp) ?_
          intro v5 w5 hown5 hg5 hat5
          have hb5 := own_belowD hbl hbl.size hol hg5
          obtain ⟨A5, c5, rfl, _, _, hs5, _⟩ := hown5.form
          have hkb := KB.of hb5
          refine hK.out _ _ hkb ?_; clear hK K
          try simp only [Act.put, List.setIfInBounds_toArray, List.set_cons_zero, List.set_cons_succ]
          -- 13: Op.call { callee := Callee.builtin Builtin.append, args := #[Operand.tmp 47, Operand.tmp 56], argTypes := #[25, 25] }
          refine bopH 13 (o := _) (by simp only [List.getElem?_toArray, List.getElem?_cons_succ, List.getElem?_cons_zero]; rfl) (by kernel_rfl) (by first | assumption | exact KB.refl _) (by rfl) (fun K hK => ?_)
          refine wp_appFD rfl (hSp.below hb5) hTL.symm hs5 rfl rfl rfl (by simp) (fun e => by have := hnil e; omega) (Nat.le_refl _) (by simp [hTL, hDL]; omega) ?_
          intro v6 w6 hown6 hg6
          have hb6 := hb5.trans ((below_none hg6).mono hb5.size)
          obtain ⟨A6, c6, rfl, hle6, hcm6, hs6, hn6, _⟩ := hown6.form
          have hkb := KB.of hb6
          refine hK.out _ _ hkb ?_; clear hK K
          try simp only [Act.put, List.setIfInBounds_toArray, List.set_cons_zero, List.set_cons_succ]
          refine btake 14 (oi := _) (v := ?_) (by simp only [List.getElem?_toArray, List.getElem?_cons_succ, List.getElem?_cons_zero]; rfl) (by kernel_rfl) (by exact fun _ _ _ h => h) (by first | assumption | exact KB.refl _) (.inl ⟨by rfl, fun W hW => ?_⟩) ?_; rotate_left
          · (go_simp; first | done | with_reducible rfl)
          try simp only [Act.put, List.setIfInBounds_toArray, List.set_cons_zero, List.set_cons_succ]
          refine bdone (by kernel_rfl) ?_
          have hb7 := hbel.trans ((hbq.trans (hb6.mono hbq.size)).mono hbel.size)
          have HF := Lib.hid (And.intro hle6 (And.intro hcm6 (And.intro hs6 (And.intro hn6 (And.intro hb7 hins)))))
          clear hkb hS0 hs2 hS2 hSp hSd e0 e1 hbl hol hown5 hown6 hs5 hs6 hb5 hb6 hb7 hg5 hg6 hat5 hle6 hn6 hins
          go_wp2_with fail
          go_roundw
          case rel =>
            obtain ⟨z1, z2, z3, z4, z5, z6⟩ := HF.out
            have hso := HO.out.1.trans z6
            refine ⟨k + 1, A6, c6, by have := HN.out; omega, by go_num, (by rw [hso]; simp only [List.length_append, hTL, hDL, List.length_cons, List.length_nil] <;> (congr 1; omega)), fun e => ?_, by rw [hso]; exact z1, z2, by rw [hso]; exact z3, z5⟩
            have := congrArg List.length (z4 e)
            simp at this
          case measure => simp [intOf]; omega
    · obtain rfl : k = n := by have := HN.out; omega
      have hd1 : decide ((k : Int) < (k : Int)) = false := by rw [decide_eq_false_iff_not]; omega
      have HR := Lib.hid (And.intro hm (show sortD l = o by rw [← ho, HN.out, List.take_length]))
      clear ho hm
      go_wp2_with fail
      go_ret
      rw [HR.out.2]
      exact ⟨A3, c3, by rw [HR.out.1]; rfl, hS, by rw [HR.out.1]; exact hc3, hcm, hbel⟩
end Go.Proofs.Ytpeecgphmcihaaa

