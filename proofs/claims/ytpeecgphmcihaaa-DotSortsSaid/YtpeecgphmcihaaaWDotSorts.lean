/- DotSorts, walked: dots come in order, each once. -/
import Derived.Test.YtpeecgphmcihaaaDotK
import Derived.Test.YtpeecgphmcihaaaDotO
import Derived.Test.YtpeecgphmcihaaaPDotx
namespace Go.Proofs.Ytpeecgphmcihaaa
open Go.RowKit Go.Proofs.Ytpeecgphmcihaaa.Pl Go.Proofs.Ytpeecgphmcihaaa.Dt

def wv (l : List Nat) : List Value := l.map (fun (n : Nat) => Value.int .u16 (n : Int))
theorem u16At {w : World} {B : Nat} {A : Option Addr} {x : List Nat} (h : Sl w B A (wv x)) {k : Nat} (hk : k < x.length) : ∃ b o, A = some ⟨b, o, none⟩ ∧ b < w.heap.size ∧ w.cell? ⟨b, o + k, none⟩ = some (.int .u16 ((x[k]?.getD 0 : Nat) : Int)) := by
  obtain ⟨b, o, e, _, h2, hc⟩ := h.at_ (k := k) (by simp [wv]; omega)
  exact ⟨b, o, e, h2, hc k _ (by simp [wv, List.getElem?_eq_getElem hk])⟩
theorem u16_lt {x : List Nat} (h : ∀ n ∈ x, n < 65536) (k : Nat) : x[k]?.getD 0 < 65536 := by
  rcases Nat.lt_or_ge k x.length with hk | hk
  · rw [List.getElem?_eq_getElem hk]; exact h _ (List.getElem_mem hk)
  · rw [List.getElem?_eq_none hk]; simp
def SR (w : World) (l : List D2) (x : List Nat) (x0 x7 : Value) (wr : World) : Prop :=
  ∃ (i m : Nat) (A : Option Addr) (c : Nat), i ≤ x.length ∧ m = l.length + i ∧ x7 = .int .i64 (i : Int) ∧ x0 = .slice A m c ∧ (A = none → m = 0) ∧ m ≤ c ∧ c ≤ maxLen ∧ Sl wr wr.heap.size A (dv (l ++ (x.take i).map mkA)) ∧ Below w.heap.size w wr
set_option maxRecDepth 100000 in
set_option maxHeartbeats 12800000 in
theorem DotSorts_walk (w : World) (A : Option Addr) (c : Nat) (l : List D2) (hl : Sl w w.heap.size A (dv l)) (hc : l.length ≤ c) (hcm : c ≤ maxLen) (A1 : Option Addr) (c1 : Nat) (x : List Nat) (hx : Sl w w.heap.size A1 (wv x)) (_ : x.length ≤ c1) (_ : c1 * 2 ≤ 140737488351232) (hxl : ∀ n ∈ x, n < 65536) (k : Nat) (hk : k < 256) :
    Calls Try.prog 4 #[.slice A l.length c, .slice A1 x.length c1, .int .u8 (k : Int)] w fun e w' => e = .returned (.bool true) ∧ Below w.heap.size w w' := by
  have HK := Lib.hid (fun W => dknown_any W)
  by_cases h1 : l.length ≤ 100
  · by_cases h2 : x.length ≤ 100
    · have hd1 : decide ((100 : Int) < (l.length : Int)) = false := by rw [decide_eq_false_iff_not]; omega
      have hd2 : decide ((100 : Int) < (x.length : Int)) = false := by rw [decide_eq_false_iff_not]; omega
      have hA0 : A = none → l.length = 0 := fun e => by
        rcases hl with h | ⟨b, o, h, _⟩
        · have := dv_len l; rw [h] at this; simp at this; omega
        · rw [e] at h; cases h
      go_enter Try.func4, Try.ntmps4
      go_wp2_with fail
      refine (HK.out _).mono ?_
      rintro e w1 ⟨rfl, hw1⟩
      go_wp2_with fail
      go_loopw [0, 7] (fun x0 x7 wr => SR w l x x0 x7 wr) (fun _ x7 _ => x.length - (intOf x7).toNat)
      case atStart => exact ⟨0, l.length, A, c, by omega, rfl, rfl, rfl, hA0, hc, hcm, by simpa using (hl.below hw1).more hw1.size, hw1⟩
      case round =>
        obtain ⟨i, m, A2, c2, hi, hmi, rfl, rfl, hn2, hc2, hm2, hS2, hbel⟩ := hrel
        by_cases hlt : i < x.length
        · obtain ⟨b, o, rfl, hb, f0⟩ := u16At hx hlt
          replace f0 := (hbel.cell hb).trans f0
          have hsn := map_succ mkA x i hlt
          have hv := u16_lt hxl i
          generalize x[i]?.getD 0 = v at *
          have hd3 : decide ((i : Int) < (x.length : Int)) = true := by rw [decide_eq_true_eq]; omega
          have hi0 : (0 : Int) ≤ (i : Int) := by omega
          have hi1 : (i : Int) < (x.length : Int) := by omega
          have e0 := cellB f0
          have hS0 : KB wr.heap wr.drew := KB.refl wr
          have hmk : mkA v = ⟨((v % 4 : Nat) : Int), ((v / 4 % 8 : Nat) : Int)⟩ := rfl
          have hw1 : IntKind.i64.wrap ((v : Int).tmod 4) = ((v % 4 : Nat) : Int) := by
            show IntKind.i64.wrap ((v % 4 : Nat) : Int) = _
            rw [IntKind.wrap_i64]; omega
          have hw2 : IntKind.u16.wrap ((v : Int) / 4) = ((v / 4 : Nat) : Int) := by rw [IntKind.wrap_u16]; omega
          generalize v % 4 = a at *
          generalize v / 4 = p at *
          have hw3 : IntKind.i64.wrap ((p : Int).tmod 8) = ((p % 8 : Nat) : Int) := by
            show IntKind.i64.wrap ((p % 8 : Nat) : Int) = _
            rw [IntKind.wrap_i64]; omega
          generalize p % 8 = q at *
          rw [hmk] at hsn
          clear hmk
          have HM := Lib.hid (And.intro hmi (And.intro hsn hv))
          clear hmi hsn hv
          go_wp2_with fail
          refine bstartH (wr.heap) (by kernel_rfl) ?_
          refine btake 0 (oi := _) (v := ?_) (by simp only [List.getElem?_toArray, List.getElem?_cons_zero]; rfl) (by kernel_rfl) (by exact fun _ _ _ h => h) (by first | assumption | exact KB.refl _) (.inl ⟨by rfl, fun W hW => ?_⟩) ?_; rotate_left
          · (go_simp; first | done | with_reducible rfl)
          try simp only [Act.put, List.setIfInBounds_toArray, List.set_cons_zero, List.set_cons_succ]
          refine btake 1 (oi := _) (v := ?_) (by simp only [List.getElem?_toArray, List.getElem?_cons_succ, List.getElem?_cons_zero]; rfl) (by kernel_rfl) (by exact fun _ _ _ h => h) (by first | assumption | exact KB.refl _) (.inl ⟨by rfl, fun W hW => ?_⟩) ?_; rotate_left
          · (go_simp; first | done | with_reducible rfl)
          try simp only [Act.put, List.setIfInBounds_toArray, List.set_cons_zero, List.set_cons_succ]
          refine btake 2 (oi := _) (v := ?_) (by simp only [List.getElem?_toArray, List.getElem?_cons_succ, List.getElem?_cons_zero]; rfl) (by kernel_rfl) (by exact fun _ _ _ h => h) (by first | assumption | exact KB.refl _) (.inl ⟨by rfl, fun W hW => ?_⟩) ?_; rotate_left
          · (go_simp; first | done | with_reducible rfl)
          try simp only [Act.put, List.setIfInBounds_toArray, List.set_cons_zero, List.set_cons_succ]
          refine btake 3 (oi := _) (v := ?_) (by simp only [List.getElem?_toArray, List.getElem?_cons_succ, List.getElem?_cons_zero]; rfl) (by kernel_rfl) (by exact fun _ _ _ h => h) (by first | assumption | exact KB.refl _) (.inl ⟨by rfl, fun W hW => ?_⟩) ?_; rotate_left
          · (go_simp; first | done | with_reducible rfl)
          try simp only [Act.put, List.setIfInBounds_toArray, List.set_cons_zero, List.set_cons_succ]
          refine btake 4 (oi := _) (v := ?_) (by simp only [List.getElem?_toArray, List.getElem?_cons_succ, List.getElem?_cons_zero]; rfl) (by kernel_rfl) (by exact fun _ _ _ h => h) (by first | assumption | exact KB.refl _) (.inl ⟨by rfl, fun W hW => ?_⟩) ?_; rotate_left
          · (go_simp; first | done | with_reducible rfl)
          try simp only [Act.put, List.setIfInBounds_toArray, List.set_cons_zero, List.set_cons_succ]
          refine btake 5 (oi := _) (v := ?_) (by simp only [List.getElem?_toArray, List.getElem?_cons_succ, List.getElem?_cons_zero]; rfl) (by kernel_rfl) (by exact fun _ _ _ h => h) (by first | assumption | exact KB.refl _) (.inl ⟨by rfl, fun W hW => ?_⟩) ?_; rotate_left
          · refine exec_pre (x := .tmp 27) (y := .tmp 29) (z := .tmp 31) (A := A2) (m := m) (c := c2) (j := m) ?_ ?_ ?_ ?_ hc2 _ <;> rfl
          try simp only [Act.put, List.setIfInBounds_toArray, List.set_cons_zero, List.set_cons_succ]
          refine btake 6 (oi := _) (v := ?_) (by simp only [List.getElem?_toArray, List.getElem?_cons_succ, List.getElem?_cons_zero]; rfl) (by kernel_rfl) (by exact fun _ _ _ h => h) (by first | assumption | exact KB.refl _) (.inl ⟨by rfl, fun W hW => ?_⟩) ?_; rotate_left
          · (go_simp; first | done | with_reducible rfl)
          try simp only [Act.put, List.setIfInBounds_toArray, List.set_cons_zero, List.set_cons_succ]
          refine btake 7 (oi := _) (v := ?_) (by simp only [List.getElem?_toArray, List.getElem?_cons_succ, List.getElem?_cons_zero]; rfl) (by kernel_rfl) (by exact fun _ _ _ h => h) (by first | assumption | exact KB.refl _) (.inl ⟨by rfl, fun W hW => ?_⟩) ?_; rotate_left
          · (go_simp; first | done | with_reducible rfl)
          try simp only [Act.put, List.setIfInBounds_toArray, List.set_cons_zero, List.set_cons_succ]
          refine btake 8 (oi := _) (v := ?_) (by simp only [List.getElem?_toArray, List.getElem?_cons_succ, List.getElem?_cons_zero]; rfl) (by kernel_rfl) (by exact fun _ _ _ h => h) (by first | assumption | exact KB.refl _) (.inl ⟨by rfl, fun W hW => ?_⟩) ?_; rotate_left
          · (go_simp; first | done | with_reducible rfl)
          try simp only [Act.put, List.setIfInBounds_toArray, List.set_cons_zero, List.set_cons_succ]
          refine btake 9 (oi := _) (v := ?_) (by simp only [List.getElem?_toArray, List.getElem?_cons_succ, List.getElem?_cons_zero]; rfl) (by kernel_rfl) (by exact fun _ _ _ h => h) (by first | assumption | exact KB.refl _) (.inl ⟨by rfl, fun W hW => ?_⟩) ?_; rotate_left
          · (go_simp; first | done | with_reducible rfl)
          try simp only [Act.put, List.setIfInBounds_toArray, List.set_cons_zero, List.set_cons_succ]
          refine btake 10 (oi := _) (v := ?_) (by simp only [List.getElem?_toArray, List.getElem?_cons_succ, List.getElem?_cons_zero]; rfl) (by kernel_rfl) (by exact fun _ _ _ h => h) (by first | assumption | exact KB.refl _) (.inl ⟨by rfl, fun W hW => ?_⟩) ?_; rotate_left
          · (go_simp; first | done | with_reducible rfl)
          try simp only [Act.put, List.setIfInBounds_toArray, List.set_cons_zero, List.set_cons_succ]
          refine btake 11 (oi := _) (v := ?_) (by simp only [List.getElem?_toArray, List.getElem?_cons_succ, List.getElem?_cons_zero]; rfl) (by kernel_rfl) (by exact fun _ _ _ h => h) (by first | assumption | exact KB.refl _) (.inl ⟨by rfl, fun W hW => ?_⟩) ?_; rotate_left
          · (go_simp; first | done | with_reducible rfl)
          try simp only [Act.put, List.setIfInBounds_toArray, List.set_cons_zero, List.set_cons_succ]
          refine btake 12 (oi := _) (v := ?_) (by simp only [List.getElem?_toArray, List.getElem?_cons_succ, List.getElem?_cons_zero]; rfl) (by kernel_rfl) (by exact fun _ _ _ h => h) (by first | assumption | exact KB.refl _) (.inl ⟨by rfl, fun W hW => ?_⟩) ?_; rotate_left
          · (go_simp; first | done | with_reducible rfl)
          try simp only [Act.put, List.setIfInBounds_toArray, List.set_cons_zero, List.set_cons_succ]
          refine btake 13 (oi := _) (v := ?_) (by simp only [List.getElem?_toArray, List.getElem?_cons_succ, List.getElem?_cons_zero]; rfl) (by kernel_rfl) (by exact fun _ _ _ h => h) (by first | assumption | exact KB.refl _) (.inl ⟨by rfl, fun W hW => ?_⟩) ?_; rotate_left
          · (go_simp; first | done | with_reducible rfl)
          try simp only [Act.put, List.setIfInBounds_toArray, List.set_cons_zero, List.set_cons_succ]
          refine btake 14 (oi := _) (v := ?_) (by simp only [List.getElem?_toArray, List.getElem?_cons_succ, List.getElem?_cons_zero]; rfl) (by kernel_rfl) (by exact fun _ _ _ h => h) (by first | assumption | exact KB.refl _) (.inl ⟨by rfl, fun W hW => ?_⟩) ?_; rotate_left
          · (go_simp; first | done | with_reducible rfl)
          try simp only [Act.put, List.setIfInBounds_toArray, List.set_cons_zero, List.set_cons_succ]
          refine btake 15 (oi := _) (v := ?_) (by simp only [List.getElem?_toArray, List.getElem?_cons_succ, List.getElem?_cons_zero]; rfl) (by kernel_rfl) (by exact fun _ _ _ h => h) (by first | assumption | exact KB.refl _) (.inl ⟨by rfl, fun W hW => ?_⟩) ?_; rotate_left
          · (go_simp; first | done | with_reducible rfl)
          try simp only [Act.put, List.setIfInBounds_toArray, List.set_cons_zero, List.set_cons_succ]
          refine btake 16 (oi := _) (v := ?_) (by simp only [List.getElem?_toArray, List.getElem?_cons_succ, List.getElem?_cons_zero]; rfl) (by kernel_rfl) (by exact fun _ _ _ h => h) (by first | assumption | exact KB.refl _) (.inl ⟨by rfl, fun W hW => ?_⟩) ?_; rotate_left
          · (go_simp; first | done | with_reducible rfl)
          try simp only [Act.put, List.setIfInBounds_toArray, List.set_cons_zero, List.set_cons_succ]
          refine btake 17 (oi := _) (v := ?_) (by simp only [List.getElem?_toArray, List.getElem?_cons_succ, List.getElem?_cons_zero]; rfl) (by kernel_rfl) (by exact fun _ _ _ h => h) (by first | assumption | exact KB.refl _) (.inl ⟨by rfl, fun W hW => ?_⟩) ?_; rotate_left
          · (go_simp; first | done | with_reducible rfl)
          try simp only [Act.put, List.setIfInBounds_toArray, List.set_cons_zero, List.set_cons_succ]
          refine btake 18 (oi := _) (v := ?_) (by simp only [List.getElem?_toArray, List.getElem?_cons_succ, List.getElem?_cons_zero]; rfl) (by kernel_rfl) (by exact fun _ _ _ h => h) (by first | assumption | exact KB.refl _) (.inl ⟨by rfl, fun W hW => ?_⟩) ?_; rotate_left
          · (go_simp; first | done | with_reducible rfl)
          try simp only [Act.put, List.setIfInBounds_toArray, List.set_cons_zero, List.set_cons_succ]
          refine btake 19 (oi := _) (v := ?_) (by simp only [List.getElem?_toArray, List.getElem?_cons_succ, List.getElem?_cons_zero]; rfl) (by kernel_rfl) (by exact fun _ _ _ h => h) (by first | assumption | exact KB.refl _) (.inl ⟨by rfl, fun W hW => ?_⟩) ?_; rotate_left
          · (go_simp; first | done | with_reducible rfl)
          try simp only [Act.put, List.setIfInBounds_toArray, List.set_cons_zero, List.set_cons_succ]
          -- 20: Op.buildSlice 25 1 #[(0, Operand.tmp 46)]
          refine bopH 20 (o := _) (by simp only [List.getElem?_toArray, List.getElem?_cons_succ, List.getElem?_cons_zero]; rfl) (by kernel_rfl) (by first | assumption | exact KB.refl _) (by rfl) (fun K hK => ?_)
          go_simp
          have hkb : KB wr.heap (wr.alloc (.cells #[.int .i64 (a : Int), .int .i64 (q : Int)] 23)).drew := KB.alloc wr _
          refine hK.out _ _ hkb ?_; clear hK K
          try simp only [Act.put, List.setIfInBounds_toArray, List.set_cons_zero, List.set_cons_succ]
          -- 21: Op.call { callee := Callee.builtin Builtin.append, args := #[Operand.tmp 32, Operand.tmp 47], argTypes := #[25, 25] }
          refine bopH 21 (o := _) (by simp only [List.getElem?_toArray, List.getElem?_cons_succ, List.getElem?_cons_zero]; rfl) (by kernel_rfl) (by first | assumption | exact KB.refl _) (by rfl) (fun K hK => ?_)
          have hbl : Below wr.heap.size wr (wr.alloc (.cells #[.int .i64 (a : Int), .int .i64 (q : Int)] 23)).drew := ((Below.refl wr.heap.size wr).alloc (Nat.le_refl _) _).drew
          have hS9 : Sl (wr.alloc (.cells #[.int .i64 (a : Int), .int .i64 (q : Int)] 23)).drew (wr.heap.size + 1) (some ⟨wr.heap.size, 0, none⟩) (dv [⟨(a : Int), (q : Int)⟩]) := Sl.new wr 23 #[.int .i64 (a : Int), .int .i64 (q : Int)] (0, 0)
          have hL9 : m = (l ++ (x.take i).map mkA).length := by have := HM.out.1; simp [List.length_take]; omega
          refine wp_appFD rfl (hS2.below hbl) hL9 hS9 rfl rfl rfl (Nat.lt_succ_self m) (fun e => ⟨hn2 e, hn2 e⟩) (Nat.le_refl _) (by rw [← hL9]; have := HM.out.1; simp; omega) ?_
          intro v9 w9 how9 hg9
          have hb9 := hbl.trans ((below_none hg9).mono hbl.size)
          have hkb := KB.of hb9
          refine hK.out _ _ hkb ?_; clear hK K
          try simp only [Act.put, List.setIfInBounds_toArray, List.set_cons_zero, List.set_cons_succ]
          refine btake 22 (oi := _) (v := ?_) (by simp only [List.getElem?_toArray, List.getElem?_cons_succ, List.getElem?_cons_zero]; rfl) (by kernel_rfl) (by exact fun _ _ _ h => h) (by first | assumption | exact KB.refl _) (.inl ⟨by rfl, fun W hW => ?_⟩) ?_; rotate_left
          · (go_simp; first | done | with_reducible rfl)
          try simp only [Act.put, List.setIfInBounds_toArray, List.set_cons_zero, List.set_cons_succ]
          refine bdone (by kernel_rfl) ?_
          obtain ⟨A9, c9, e9, hle9, hcm9, hs9, hn9, _⟩ := how9.form
          have hL9 : ((l ++ (x.take i).map mkA) ++ ([⟨(a : Int), (q : Int)⟩] : List D2)).length = m + 1 := by have := HM.out.1; simp [List.length_take]; omega
          have hn9' : A9 = none → m + 1 = 0 := fun e => by rw [← hL9, hn9 e]; rfl
          rw [hL9] at e9 hle9
          rw [List.append_assoc, ← HM.out.2.1] at hs9
          subst e9
          have hbz := hbel.trans (hb9.mono hbel.size)
          clear hS0 hkb e0 f0 hw1 hw2 hw3 how9 hg9 hb9 hbel hS2 hn9 hn2
          go_wp2_with fail
          go_roundw
          case rel => exact ⟨i + 1, m + 1, A9, c9, by omega, by have := HM.out.1; omega, by go_num, rfl, hn9', hle9, hcm9, hs9, hbz⟩
          case measure => simp [intOf]; omega
        · obtain rfl : i = x.length := by omega
          have hd3 : decide ((x.length : Int) < (x.length : Int)) = false := by rw [decide_eq_false_iff_not]; omega
          rw [List.take_length] at hS2
          obtain ⟨L, hL⟩ : ∃ L, l ++ x.map mkA = L := ⟨_, rfl⟩
          have hLm : m = L.length := by rw [← hL]; simp; omega
          have hm200 : m ≤ 200 := by omega
          rw [hL] at hS2
          have HM := Lib.hid hLm
          clear hL hmi hl hx hxl hLm
          go_wp2_with fail
          have hLm := HM.out
          refine (Sort_any wr A2 m c2 L hS2 hLm (by omega)).mono ?_
          rintro e w3 ⟨A3, c3, rfl, hs3, hle3, hcm3, h3⟩
          have hS3 := (hS2.below h3).more h3.size
          have hb3 := hbel.trans (h3.mono hbel.size)
          have hsl : (sortD L).length ≤ 200 := Nat.le_trans (sortD_len L) (by omega)
          obtain ⟨n3, hn3⟩ : ∃ n3, (sortD L).length = n3 := ⟨_, rfl⟩
          rw [hn3] at hsl hle3 ⊢
          have HL := Lib.hid (And.intro hLm hn3)
          clear hS2 hbel h3 hLm hn3
          go_wp2_with fail
          go_loopw [9, 10] (fun x9 x10 w4 => ∃ i : Nat, i ≤ m ∧ x10 = .int .i64 (i : Int) ∧ OwnD w4 w3.heap.size x9 (turnD L k i) ∧ Below w3.heap.size w3 w4) (fun _ x10 _ => m - (intOf x10).toNat)
          case atStart => exact ⟨0, by omega, rfl, OwnD.nil _ _, Below.refl _ _⟩
          case round =>
            obtain ⟨i, hi, rfl, hown, hbel⟩ := hrel
            by_cases hlt : i < m
            · have hr9 : (i + k) % m < m := Nat.mod_lt _ (by omega)
              obtain ⟨b, o, rfl, _, hbb, f0, f1⟩ := dotAt hS3 (k := m - 1 - (i + k) % m) (by have := HL.out.1; omega)
              replace f0 := (hbel.cell hbb).trans f0
              replace f1 := (hbel.cell hbb).trans f1
              have hts := turnD_succ L k i
              have hta : turnAt L k i = L[m - 1 - (i + k) % m]?.getD ⟨0, 0⟩ := by rw [turnAt, HL.out.1]
              rw [hta] at hts
              have hd4 : decide ((i : Int) < (m : Int)) = true := by rw [decide_eq_true_eq]; omega
              have k1 : IntKind.i64.wrap ((m : Int) - 1) = ((m - 1 : Nat) : Int) := by rw [IntKind.wrap_i64]; omega
              have k2 : IntKind.i64.wrap ((i : Int) + (k : Int)) = ((i + k : Nat) : Int) := by rw [IntKind.wrap_i64]; omega
              have k5 : IntKind.i64.wrap (k : Int) = (k : Int) := by rw [IntKind.wrap_i64]; omega
              have k3 : ((i + k : Nat) : Int).tmod (m : Int) = (((i + k) % m : Nat) : Int) := rfl
              have k4 : IntKind.i64.wrap (((m - 1 : Nat) : Int) - (((i + k) % m : Nat) : Int)) = ((m - 1 - (i + k) % m : Nat) : Int) := by rw [IntKind.wrap_i64]; omega
              have k6 : m - 1 - (i + k) % m < m := by omega
              have k7 : ((m : Int) == 0) = false := by rw [beq_eq_false_iff_ne]; omega
              have k8 : ¬ (m : Int) = 0 := by omega
              generalize L[m - 1 - (i + k) % m]?.getD ⟨0, 0⟩ = y at *
              generalize m - 1 - (i + k) % m = j at *
              generalize (i + k) % m = r at *
              generalize i + k = u at *
              generalize m - 1 = v at *
              have k9 : (0 : Int) ≤ (j : Int) := by omega
              have k10 : (j : Int) < (m : Int) := by omega
              have HT := Lib.hid hts
              have hown2 := hown.below (balloc (Below.refl _ _) (.cells #[.int .i64 y.r, .int .i64 y.q] 23))
              have hbel2 := hbel.alloc hbel.size (.cells #[.int .i64 y.r, .int .i64 y.q] 23)
              have hSl : Sl (wr.alloc (.cells #[.int .i64 y.r, .int .i64 y.q] 23)) (wr.heap.size + 1) (some ⟨wr.heap.size, 0, none⟩) (dv [y]) := Sl.new wr 23 #[.int .i64 y.r, .int .i64 y.q] (0, 0)
              clear hts hta hown hr9 hi
              go_wp2_with (at_builtin; refine appD rfl rfl hown2 hSl rfl rfl rfl (by rw [turnD_len, List.length_singleton]; omega) hbel2.size ?_; intro v7 w7 h7 hg7 hat7)
              go_roundw
              case rel => exact ⟨i + 1, by omega, by go_num, by rw [HT.out]; exact h7, own_belowD hbel2 hbel2.size hown2 hg7⟩
              case measure => simp [intOf]; omega
            · obtain rfl : i = m := by omega
              have hSr := (hS3.below hbel).more hbel.size
              have hRf := RefSort_any wr A2 i c2 L hSr HL.out.1 (by omega)
              have hT1 := turn_sort L k
              have hT2 := turn_sort2 L k
              have hT3 := sort_sort L
              rw [← HL.out.1] at hT1 hT2
              have hTl := turnD_len L k i
              have hSl := HL.out.2
              generalize turnD L k i = T at *
              obtain ⟨S, hS⟩ : ∃ S, sortD L = S := ⟨_, rfl⟩
              unfold DRow at hRf
              rw [hS] at hRf hT1 hT2 hT3 hSl hs3
              rw [hSl] at hRf
              obtain ⟨At, ct, e9, hlt9, hmt9, hst9, _⟩ := hown.form
              rw [hTl] at e9
              subst e9
              have HH := Lib.hid (And.intro hT1 (And.intro hT2 (And.intro hT3 (And.intro hTl hSl))))
              have hs4 := (hs3.below hbel).more hbel.size
              have hbz := hb3.trans (hbel.mono hb3.size)
              have adv : ∀ wi wj : World, (Sl wi w3.heap.size A3 (dv S) ∧ w3.heap.size ≤ wi.heap.size ∧ OwnD wi w3.heap.size (.slice At i ct) T) → Below wi.heap.size wi wj → (Sl wj w3.heap.size A3 (dv S) ∧ w3.heap.size ≤ wj.heap.size ∧ OwnD wj w3.heap.size (.slice At i ct) T) := fun _ _ h g => ⟨h.1.below' g, Nat.le_trans h.2.1 g.size, h.2.2.below g⟩
              have AD := Lib.hid adv
              have HO := Lib.hid (show Sl wr w3.heap.size A3 (dv S) ∧ w3.heap.size ≤ wr.heap.size ∧ OwnD wr w3.heap.size (.slice At i ct) T from ⟨hs3.below hbel, hbel.size, hown⟩)
              clear adv
              have HW := Lib.hid hb3.size
              clear hS hT1 hT2 hT3 hTl hSl hs3 hown hbel hS3 hSr hi hb3
              go_wp2_with fail
              refine Calls.mono hRf ?_
              rintro e w5 ⟨A5, c5, rfl, g1, _, _, g2⟩
              have hs5 := (hs4.below g2).more g2.size
              have hst5 := (hst9.below g2).more g2.size
              have hob5 := AD.out _ _ HO.out g2
              have hb5 := hbz.trans (g2.mono hbz.size)
              have HO := Lib.hid hob5
              clear hs4 hst9 hob5 hbz hRf
              go_wp2_with fail
              have hSm := Same_any w5 A3 A5 n3 n3 c3 c5 S S hs5 g1 HH.out.2.2.2.2.symm HH.out.2.2.2.2.symm (by omega) (by omega) (Nat.le_refl _) (Nat.le_refl _)
              simp only [decide_true] at hSm
              refine Calls.mono hSm ?_
              rintro e w6 ⟨rfl, g3⟩
              have hs6 := (hs5.below g3).more g3.size
              have hst6 := (hst5.below g3).more g3.size
              have hob6 := AD.out _ _ HO.out g3
              have hb6 := hb5.trans (g3.mono hb5.size)
              have HO := Lib.hid hob6
              clear hs5 hst5 hob6 hb5 hSm g1 g2 g3
              go_wp2_with fail
              have hSo := Sort_any w6 At i ct T hst6 HH.out.2.2.2.1.symm (by have := HH.out.2.2.2.1; omega)
              unfold DRow at hSo
              rw [HH.out.1, HH.out.2.2.2.2] at hSo
              refine Calls.mono hSo ?_
              rintro e w7 ⟨A7, c7, rfl, g1, _, _, g2⟩
              have hs7 := (hs6.below g2).more g2.size
              have hob7 := AD.out _ _ HO.out g2
              have hb7 := hb6.trans (g2.mono hb6.size)
              have HO := Lib.hid hob7
              clear hs6 hst6 hob7 hb6 hSo
              go_wp2_with fail
              have hSm := Same_any w7 A7 A3 n3 n3 c7 c3 S S g1 hs7 HH.out.2.2.2.2.symm HH.out.2.2.2.2.symm (by omega) (by omega) (Nat.le_refl _) (Nat.le_refl _)
              simp only [decide_true] at hSm
              refine Calls.mono hSm ?_
              rintro e w8 ⟨rfl, g3⟩
              have hs8 := (hs7.below g3).more g3.size
              have hob8 := AD.out _ _ HO.out g3
              have hb8 := hb7.trans (g3.mono hb7.size)
              have HO := Lib.hid hob8
              clear hs7 hob8 hb7 hSm g1 g2 g3
              go_wp2_with fail
              have hSo := Sort_any w8 A3 n3 c3 S hs8 HH.out.2.2.2.2.symm (by have := HH.out.2.2.2.2; omega)
              unfold DRow at hSo
              rw [HH.out.2.2.1, HH.out.2.2.2.2] at hSo
              refine Calls.mono hSo ?_
              rintro e w9 ⟨A9, c9, rfl, g1, _, _, g2⟩
              have hs9 := (hs8.below g2).more g2.size
              have hob9 := AD.out _ _ HO.out g2
              have hb9 := hb8.trans (g2.mono hb8.size)
              have HO := Lib.hid hob9
              clear hs8 hob9 hb8 hSo
              go_wp2_with fail
              have hSm := Same_any w9 A9 A3 n3 n3 c9 c3 S S g1 hs9 HH.out.2.2.2.2.symm HH.out.2.2.2.2.symm (by omega) (by omega) (Nat.le_refl _) (Nat.le_refl _)
              simp only [decide_true] at hSm
              refine Calls.mono hSm ?_
              rintro e w10 ⟨rfl, g3⟩
              have hs10 := (hs9.below g3).more g3.size
              have hob10 := AD.out _ _ HO.out g3
              have hb10 := hb9.trans (g3.mono hb9.size)
              have HO := Lib.hid hob10
              have hbase : w3.heap.size ≤ w10.heap.size := hob10.2.1
              clear hs9 hob10 hb9 hSm g1 g2 g3
              go_wp2_with (at_builtin; go_loud (refine appDG (by rfl) rfl HO.out.2.2 hs10 HH.out.2.2.2.2.symm rfl rfl (by have := HH.out; omega) hbase ?_); intro v11 w11 how11 hg11 hat11)
              have hb11 := own_belowD hb10 hb10.size (HO.out.2.2.lower HW.out) hg11
              have hs11 := (HO.out.1.below (below_of_grown hg11 (fun g e => (HO.out.2.2.lt g e).1) hbase)).more (Nat.le_trans hbase hg11.size)
              obtain ⟨Ab, cb, e9, hleb, hcmb, hsb, _⟩ := how11.form
              obtain ⟨nb, hnb⟩ : ∃ nb, (T ++ S).length = nb := ⟨_, rfl⟩
              rw [hnb] at e9
              subst e9
              have hnb2 : nb ≤ 400 := by have := HH.out; rw [← hnb, List.length_append]; omega
              have hSo := Sort_any w11 Ab nb cb (T ++ S) hsb hnb.symm (by omega)
              unfold DRow at hSo
              rw [HH.out.2.1, HH.out.2.2.2.2] at hSo
              refine Calls.mono hSo ?_
              rintro e w12 ⟨Ac, cc, rfl, g1, _, _, g2⟩
              have hs12 := (hs11.below g2).more g2.size
              have hb12 := hb11.trans (g2.mono hb11.size)
              clear hs10 hs11 hb10 hb11 hsb how11 hSo g2
              go_wp2_with fail
              have hSm := Same_any w12 Ac A3 n3 n3 cc c3 S S g1 hs12 HH.out.2.2.2.2.symm HH.out.2.2.2.2.symm (by omega) (by omega) (Nat.le_refl _) (Nat.le_refl _)
              simp only [decide_true] at hSm
              refine Calls.mono hSm ?_
              rintro e w13 ⟨rfl, g3⟩
              have hb13 := hb12.trans (g3.mono hb12.size)
              go_wp2_with fail
              go_ret
              exact ⟨rfl, hb13⟩
    · have hd1 : decide ((100 : Int) < (l.length : Int)) = false := by rw [decide_eq_false_iff_not]; omega
      have hd2 : decide ((100 : Int) < (x.length : Int)) = true := by rw [decide_eq_true_eq]; omega
      go_enter Try.func4, Try.ntmps4
      go_wp2_with fail
      refine (HK.out _).mono ?_
      rintro e w1 ⟨rfl, hw1⟩
      go_wp2_with fail
      go_ret
      exact ⟨rfl, hw1⟩
  · have hd1 : decide ((100 : Int) < (l.length : Int)) = true := by rw [decide_eq_true_eq]; omega
    go_enter Try.func4, Try.ntmps4
    go_wp2_with fail
    refine (HK.out _).mono ?_
    rintro e w1 ⟨rfl, hw1⟩
    go_wp2_with fail
    go_ret
    exact ⟨rfl, hw1⟩
end Go.Proofs.Ytpeecgphmcihaaa

