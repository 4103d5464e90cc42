/- Disks: a crash, file by file (plain). -/
import Derived.Test.YthnbnhlfiehihaaPDk3
namespace Go.Proofs.Ythnbnhlfiehihaa

def loose (f : DF) : Bool := decide (f.s < f.b.length)
def pickOf (f : DF) (ps : List Int) : Nat := ((ps.headD 0) % ((f.b.length - f.s + 1 : Nat) : Int)).toNat
def crash1 (f : DF) (ps : List Int) : DF := if f.s < f.b.length then (f.first (f.s + pickOf f ps)).sync else f
def cntL (R : DR) : Nat := (R.filter fun p => loose p.2).length
theorem pick_le (f : DF) (ps : List Int) : pickOf f ps ≤ f.b.length - f.s := by
  unfold pickOf
  have h1 := Int.emod_lt_of_pos (ps.headD 0) (show (0 : Int) < ((f.b.length - f.s + 1 : Nat) : Int) by omega)
  omega
theorem crash_get : ∀ (R : DR) (ps : List Int) (j : Nat), (crashR R ps)[j]? = (R[j]?).map fun p => (p.1, crash1 p.2 (ps.drop (cntL (R.take j))))
  | [], _, _ => by simp [crashR]
  | (x, f) :: R, ps, 0 => by
    unfold crashR
    by_cases h : f.s < f.b.length
    · rw [if_pos h]; simp [crash1, h, cntL, pickOf]
    · rw [if_neg h]; simp [crash1, h]
  | (x, f) :: R, ps, j + 1 => by
    unfold crashR
    by_cases h : f.s < f.b.length
    · have hc : cntL (((x, f) :: R).take (j + 1)) = cntL (R.take j) + 1 := by
        simp [cntL, List.take_succ_cons, List.filter_cons, loose, h]
      rw [if_pos h, hc, List.getElem?_cons_succ, List.getElem?_cons_succ, crash_get R ps.tail j]
      congr 1
      funext p
      rw [← List.drop_one, List.drop_drop, Nat.add_comm 1]
    · have hc : cntL (((x, f) :: R).take (j + 1)) = cntL (R.take j) := by
        simp [cntL, List.take_succ_cons, List.filter_cons, loose, h]
      rw [if_neg h, hc, List.getElem?_cons_succ, List.getElem?_cons_succ, crash_get R ps j]
/-- the first j files crashed -/
def partR (R : DR) (ps : List Int) (j : Nat) : DR := (crashR R ps).take j ++ R.drop j
theorem part_zero (R : DR) (ps : List Int) : partR R ps 0 = R := by simp [partR]
theorem part_all (R : DR) (ps : List Int) : partR R ps R.length = crashR R ps := by
  unfold partR
  rw [List.take_of_length_le (by rw [crash_len]; omega), List.drop_length, List.append_nil]
theorem part_names (R : DR) (ps : List Int) (j : Nat) : (partR R ps j).map (·.1) = R.map (·.1) := by
  unfold partR
  rw [List.map_append, List.map_take, List.map_drop, crash_names, List.take_append_drop]
theorem part_len (R : DR) (ps : List Int) (j : Nat) : (partR R ps j).length = R.length := by
  have := congrArg List.length (part_names R ps j)
  simpa using this
theorem part_rise {R : DR} (h : RiseN R) (ps : List Int) (j : Nat) : RiseN (partR R ps j) := by
  rw [rise_names, part_names, ← rise_names]; exact h
theorem part_at {R : DR} {ps : List Int} {j : Nat} (hj : j < R.length) : (partR R ps j)[j]? = R[j]? := by
  unfold partR
  rw [List.getElem?_append_right (by rw [List.length_take, crash_len]; omega), List.length_take, crash_len, Nat.min_eq_left (by omega), Nat.sub_self, List.getElem?_drop]
  simp
theorem part_succ {R : DR} {ps : List Int} {j : Nat} {x : Nm} {f : DF} (hj : R[j]? = some (x, f)) : partR R ps (j + 1) = (partR R ps j).set j (x, crash1 f (ps.drop (cntL (R.take j)))) := by
  have hlt := (List.getElem?_eq_some_iff.1 hj).1
  have hc := crash_get R ps j
  rw [hj, Option.map_some] at hc
  apply List.ext_getElem?
  intro i
  have hl : ((crashR R ps).take j).length = j := by rw [List.length_take, crash_len]; omega
  have hl1 : ((crashR R ps).take (j + 1)).length = j + 1 := by rw [List.length_take, crash_len]; omega
  rcases Nat.lt_trichotomy i j with h | h | h
  · rw [List.getElem?_set_ne (by omega)]
    unfold partR
    rw [List.getElem?_append_left (by omega), List.getElem?_append_left (by omega), List.getElem?_take, List.getElem?_take, if_pos (by omega), if_pos h]
  · subst h
    rw [List.getElem?_set_self (by rw [part_len]; exact hlt)]
    unfold partR
    rw [List.getElem?_append_left (by omega), List.getElem?_take, if_pos (by omega), hc]
  · rw [List.getElem?_set_ne (by omega)]
    unfold partR
    rw [List.getElem?_append_right (by omega), List.getElem?_append_right (by omega), hl, hl1, List.getElem?_drop, List.getElem?_drop]
    congr 1
    omega
/-- the next file crashed: laid again, or left as it is -/
theorem part_put {R : DR} (h : RiseN R) {ps : List Int} {j : Nat} {x : Nm} {f : DF} (hj : R[j]? = some (x, f)) : partR R ps (j + 1) = putN (partR R ps j) x (crash1 f (ps.drop (cntL (R.take j)))) := by
  rw [part_succ hj]
  have := part_at (ps := ps) (List.getElem?_eq_some_iff.1 hj).1
  rw [hj] at this
  exact put_at (part_rise h ps j) this
theorem part_keep {R : DR} (h : RiseN R) {ps : List Int} {j : Nat} {x : Nm} {f : DF} (hj : R[j]? = some (x, f)) (hn : ¬ f.s < f.b.length) : partR R ps (j + 1) = partR R ps j := by
  rw [part_succ hj]
  have := part_at (ps := ps) (List.getElem?_eq_some_iff.1 hj).1
  rw [hj] at this
  have e : crash1 f (ps.drop (cntL (R.take j))) = f := by unfold crash1; rw [if_neg hn]
  rw [e]
  apply List.ext_getElem?
  intro i
  by_cases hi : j = i
  · subst hi
    rw [List.getElem?_set_self (List.getElem?_eq_some_iff.1 this).1, this]
  · rw [List.getElem?_set_ne hi]
theorem part_look {R : DR} (h : RiseN R) {ps : List Int} {j : Nat} {x : Nm} {f : DF} (hj : R[j]? = some (x, f)) : look (partR R ps j) x = some f := by
  have := part_at (ps := ps) (List.getElem?_eq_some_iff.1 hj).1
  rw [hj] at this
  exact look_at (part_rise h ps j) this
theorem cnt_succ {R : DR} {j : Nat} {x : Nm} {f : DF} (hj : R[j]? = some (x, f)) : cntL (R.take (j + 1)) = cntL (R.take j) + if f.s < f.b.length then 1 else 0 := by
  unfold cntL
  rw [List.take_add_one, hj, List.filter_append, List.length_append]
  simp only [Option.toList_some, List.filter_cons, List.filter_nil, loose, decide_eq_true_eq]
  split <;> simp
theorem cnt_le (R : DR) (j : Nat) : cntL (R.take j) ≤ j := by
  unfold cntL
  have h1 := List.length_filter_le (fun p : Nm × DF => loose p.2) (R.take j)
  rw [List.length_take] at h1
  omega
theorem part_sure {R : DR} (hs : ∀ p ∈ R, p.2.s ≤ p.2.b.length) (ps : List Int) (j : Nat) : ∀ p ∈ partR R ps j, p.2.s ≤ p.2.b.length := fun p hp => by
  rcases List.mem_append.1 hp with hp | hp
  · exact Nat.le_of_eq (crash_sure R ps hs p (List.mem_of_mem_take hp))
  · exact hs p (List.mem_of_mem_drop hp)
theorem sumN_append {β : Type} (len : β → Nat) (R S : List (Nm × β)) : sumN len (R ++ S) = sumN len R + sumN len S := by
  induction R with
  | nil => simp [sumN]
  | cons q R ih => simp only [List.cons_append, sumN, ih]; omega
theorem crash_used_take : ∀ (R : DR) (ps : List Int) (j : Nat), sumN DF.len ((crashR R ps).take j) ≤ sumN DF.len (R.take j)
  | [], _, _ => by simp [crashR]
  | (x, f) :: R, ps, 0 => by simp
  | (x, f) :: R, ps, j + 1 => by
    unfold crashR
    split
    · rw [List.take_succ_cons, List.take_succ_cons]
      have := crash_used_take R ps.tail j
      simp only [sumN, DF.len, DF.sync, DF.first, List.length_take] at this ⊢
      omega
    · rw [List.take_succ_cons, List.take_succ_cons]
      have := crash_used_take R ps j
      simp only [sumN] at this ⊢
      omega
theorem part_used (R : DR) (ps : List Int) (j : Nat) : usedR (partR R ps j) ≤ usedR R := by
  unfold partR usedR
  rw [sumN_append]
  have h1 := crash_used_take R ps j
  have h2 : sumN DF.len R = sumN DF.len (R.take j) + sumN DF.len (R.drop j) := by rw [← sumN_append, List.take_append_drop]
  omega
theorem DK.ok.part {d : DK} {n : Nat} (h : d.ok n) (ps : List Int) (j : Nat) : ({ d with R := partR d.R ps j } : DK).ok n :=
  h.withR (part_rise h.rise ps j) (part_sure h.sure ps j) (Nat.le_trans (part_used _ _ _) h.used) (Nat.le_of_eq (part_len _ _ _))
end Go.Proofs.Ythnbnhlfiehihaa

