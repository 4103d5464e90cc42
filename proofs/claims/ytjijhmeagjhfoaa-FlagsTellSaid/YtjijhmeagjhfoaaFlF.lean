/- Flags: the law's of. -/
import Derived.Test.YtjijhmeagjhfoaaFlL
import Derived.Laws.BitsAllLaws
import Derived.IntWalk
namespace Go.Proofs.Ytjijhmeagjhfoaa
open Go.RowKit
set_option maxRecDepth 20000

theorem u32_s (n d m : Nat) (hn : n < 4294967296) (hm : m < 4) : bits .and .u32 ((n : Int) / (d : Int)) (m : Int) = ((n / d &&& m : Nat) : Int) := by
  rw [← Int.natCast_ediv, u32_and_nat _ _ (Nat.lt_of_le_of_lt (Nat.div_le_self _ _) hn) (by omega)]
theorem u32_s3 (n d : Nat) (hn : n < 4294967296) : bits .and .u32 ((n : Int) / (d : Int)) 3 = ((n / d % 4 : Nat) : Int) := by
  have := u32_s n d 3 hn (by omega)
  rw [show (3 : Nat) = 2 ^ 2 - 1 from rfl, Nat.and_two_pow_sub_one_eq_mod] at this
  exact this
theorem u32_s1 (n d : Nat) (hn : n < 4294967296) : bits .and .u32 ((n : Int) / (d : Int)) 1 = ((n / d % 2 : Nat) : Int) := by
  have := u32_s n d 1 hn (by omega)
  rw [show (1 : Nat) = 2 ^ 1 - 1 from rfl, Nat.and_two_pow_sub_one_eq_mod] at this
  exact this
theorem wrap_small (q : Nat) (h : q < 1000) : IntKind.i64.wrap (q : Int) = (q : Int) := IntWalk.i64_in _ (by omega)
theorem wrap_u8 (n : Nat) : IntKind.u8.wrap (n : Int) = ((n % 256 : Nat) : Int) := by
  simp [IntKind.wrap, IntKind.signed, IntKind.bits]
def FU : Nat → ID × FM := fun n => (idOf (n % 256), ⟨⟨((n / 256 % 4 : Nat) : Int), ((n / 1024 % 2 : Nat) : Int), ((n / 2048 % 4 : Nat) : Int)⟩, decide (n / 8192 % 2 = 1)⟩)
theorem FU_right (n : Nat) : (FU n).2.right := by
  rw [FM.right, S3.right_iff]
  simp only [FU]
  omega
def ofR (l : List Nat) : List FE := l.foldl (fun R n => putR R (FU n).1 (FU n).2) []
theorem ofR_snoc {l : List Nat} {k n : Nat} (hk : l[k]? = some n) : ofR (l.take (k + 1)) = putR (ofR (l.take k)) (FU n).1 (FU n).2 := by
  obtain ⟨hlt, rfl⟩ := List.getElem?_eq_some_iff.1 hk
  rw [List.take_succ_eq_append_getElem hlt, ofR, List.foldl_append]
  rfl
theorem ofR_facts' : ∀ (l : List Nat) (R : List FE), Rise R → AllR R → Rise (l.foldl (fun R n => putR R (FU n).1 (FU n).2) R) ∧ AllR (l.foldl (fun R n => putR R (FU n).1 (FU n).2) R)
  | [], _, h1, h2 => ⟨h1, h2⟩
  | n :: l, _R, h1, h2 => ofR_facts' l _ (rise_put h1 _ _) (all_put h1 h2 _ (FU_right n))
theorem ofR_facts (l : List Nat) : Rise (ofR l) ∧ AllR (ofR l) := ofR_facts' l [] List.Pairwise.nil (fun p hp => by simp at hp)
theorem ofR_len' : ∀ (l : List Nat) (R : List FE), Rise R → (l.foldl (fun R n => putR R (FU n).1 (FU n).2) R).length ≤ R.length + l.length
  | [], _, _ => Nat.le_refl _
  | n :: l, R, h1 => by
    have h2 := ofR_len' l _ (rise_put h1 (FU n).1 (FU n).2)
    have h3 := len_putR (FU n).1 (FU n).2 h1
    rw [h3] at h2
    simp only [List.foldl_cons, List.length_cons]
    split at h2 <;> omega
theorem ofR_len (l : List Nat) : (ofR l).length ≤ l.length := by
  have := ofR_len' l [] List.Pairwise.nil
  rw [List.length_nil, Nat.zero_add] at this
  exact this
def u32v (n : Nat) : Value := .int .u32 (n : Int)
def OfPost (w : World) (R : List FE) (e : Ending) (w' : World) : Prop := ∃ m b, e = .returned (.pointer (some ⟨m, 0, none⟩)) ∧ FSt w' m b R ∧ w.heap.size ≤ m ∧ w.heap.size ≤ b ∧ m < w'.heap.size ∧ Below w.heap.size w w'
set_option maxRecDepth 100000 in
set_option maxHeartbeats 3200000 in
theorem of_any (w : World) (A : Option Addr) (c nn : Nat) (l : List Nat) (hsl : Sl w w.heap.size A (l.map fun (n : Nat) => Value.int .u32 (n : Int))) (hb : ∀ n ∈ l, n < 4294967296) (hN : nn = l.length) (hn : nn ≤ 1000) :
    Calls Try.prog 21 #[.slice A nn c] w (OfPost w (ofR l)) := by
  have HN := Lib.hid (And.intro hN (And.intro hsl hb))
  clear hN hsl hb
  go_enter Try.func21, Try.ntmps21
  go_wp2_with fail
  refine (New_any w).mono ?_
  rintro e w1 ⟨rfl, hfs, hb1⟩
  have H1 := Lib.hid (And.intro hfs hb1)
  have hs1 := hfs.1.1
  clear hfs hb1
  go_wp2_with fail
  go_loopw [4] (fun i wr => ∃ k : Nat, i = .int .i64 (k : Int) ∧ k ≤ nn ∧ FSt wr (w.heap.size + 1) w.heap.size (ofR (l.take k)) ∧ Below w.heap.size w wr ∧ w1.heap.size ≤ wr.heap.size) (fun i _ => nn - (intOf i).toNat)
  case atStart => exact ⟨0, rfl, Nat.zero_le _, H1.out.1, H1.out.2, Nat.le_refl _⟩
  case round =>
    obtain ⟨k, rfl, hk, f1, hb, hs⟩ := hrel
    have HX := Lib.hid (And.intro f1 (And.intro hb hs))
    clear f1 hb hs
    by_cases hlt : k < nn
    · obtain ⟨n, hx⟩ : ∃ n, l[k]? = some n := ⟨_, List.getElem?_eq_getElem (by have := HN.out.1; omega)⟩
      obtain ⟨g, o, rfl, hg, hg2, hc⟩ := HN.out.2.1.at_ (k := k) (by rw [List.length_map]; have := HN.out.1; omega)
      have hcell := hc k (.int .u32 (n : Int)) (by rw [List.getElem?_map, hx]; rfl)
      replace hcell := (HX.out.2.1.cell (p := ⟨g, o + k, none⟩) hg2).trans hcell
      have f0 := cellB hcell
      have hn32 := HN.out.2.2 n (List.mem_of_getElem? hx)
      have hx0 : (0 : Int) ≤ (k : Int) := by omega
      have hx1 : (k : Int) < (nn : Int) := by omega
      have hkb : k < 1000000 := by omega
      have HC := Lib.hid hx
      have hS0 : KB wr.heap wr.drew := KB.refl _
      have b0 := wrap_u8 n
      have b1 := u32_s3 n 256 hn32
      have b2 := u32_s1 n 1024 hn32
      have b3 := u32_s3 n 2048 hn32
      have b4 : (bits .and .u32 ((n : Int) / ((8192 : Nat) : Int)) 1 == 1) = decide (n / 8192 % 2 = 1) := by
        rw [u32_s1 n 8192 hn32]
        by_cases h : n / 8192 % 2 = 1
        · rw [h]; rfl
        · rw [decide_eq_false h, beq_eq_false_iff_ne]; omega
      have d1 := wrap_small (n / 256 % 4) (by omega)
      have d2 := wrap_small (n / 1024 % 2) (by omega)
      have d3 := wrap_small (n / 2048 % 4) (by omega)
      have hFU : FU n = (idOf (n % 256), ⟨⟨((n / 256 % 4 : Nat) : Int), ((n / 1024 % 2 : Nat) : Int), ((n / 2048 % 4 : Nat) : Int)⟩, decide (n / 8192 % 2 = 1)⟩) := rfl
      have ha : n % 256 < 256 := by omega
      generalize n % 256 = a at *
      generalize n / 256 % 4 = p at *
      generalize n / 1024 % 2 = q at *
      generalize n / 2048 % 4 = r at *
      generalize decide (n / 8192 % 2 = 1) = on at *
      have HFU := Lib.hid (And.intro hFU ha)
      simp only [Int.cast_ofNat_Int] at b1 b2 b3 b4
      have HPut := Lib.hid (fun W (h : FSt W (w.heap.size + 1) w.heap.size (ofR (l.take k))) => Put_any W (w.heap.size + 1) w.heap.size _ h (idOf a) ⟨(p : Int), (q : Int), (r : Int)⟩ on (by have := ofR_len (l.take k); have := List.length_take_le k l; omega))
      clear hc hcell hx hFU ha
      go_wp2_with fail
      refine bstartE (KB wr.heap) 36 (by kernel_rfl) ?_
      refine btakeE 0 [] (oi := _) (v := ?_) (by simp only [List.getElem?_toArray, List.getElem?_cons_zero]; rfl) (by kernel_rfl) (by exact fun _ _ _ h => h) (by first | assumption | exact KB.refl _) (.inl ⟨by rfl, fun W hW => ?_⟩) ?_; rotate_left
      · (go_simp; first | done | with_reducible rfl)
      try simp only [Act.put, List.setIfInBounds_toArray, List.set_cons_zero, List.set_cons_succ]
      refine btakeE 1 [6, 5, 4, 3] (oi := _) (v := ?_) (by simp only [List.getElem?_toArray, List.getElem?_cons_succ, List.getElem?_cons_zero]; rfl) (by kernel_rfl) (by exact fun _ _ _ h => h) (by first | assumption | exact KB.refl _) (.inl ⟨by rfl, fun W hW => ?_⟩) ?_; rotate_left
      · (go_simp; first | done | with_reducible rfl)
      try simp only [Act.put, List.setIfInBounds_toArray, List.set_cons_zero, List.set_cons_succ]
      refine btakeE 2 [6, 5, 4, 3] (oi := _) (v := ?_) (by simp only [List.getElem?_toArray, List.getElem?_cons_succ, List.getElem?_cons_zero]; rfl) (by kernel_rfl) (by exact fun _ _ _ h => h) (by first | assumption | exact KB.refl _) (.inl ⟨by rfl, fun W hW => ?_⟩) ?_; rotate_left
      · (go_simp; first | done | with_reducible rfl)
      try simp only [Act.put, List.setIfInBounds_toArray, List.set_cons_zero, List.set_cons_succ]
      refine btakeE 3 [6, 5, 4] (oi := _) (v := ?_) (by simp only [List.getElem?_toArray, List.getElem?_cons_succ, List.getElem?_cons_zero]; rfl) (by kernel_rfl) (by exact fun _ _ _ h => h) (by first | assumption | exact KB.refl _) (.inl ⟨by rfl, fun W hW => ?_⟩) ?_; rotate_left
      · (go_simp; first | done | with_reducible rfl)
      try simp only [Act.put, List.setIfInBounds_toArray, List.set_cons_zero, List.set_cons_succ]
      refine btakeE 4 [6, 5] (oi := _) (v := ?_) (by simp only [List.getElem?_toArray, List.getElem?_cons_succ, List.getElem?_cons_zero]; rfl) (by kernel_rfl) (by exact fun _ _ _ h => h) (by first | assumption | exact KB.refl _) (.inl ⟨by rfl, fun W hW => ?_⟩) ?_; rotate_left
      · (go_simp; first | done | with_reducible rfl)
      try simp only [Act.put, List.setIfInBounds_toArray, List.set_cons_zero, List.set_cons_succ]
      refine btakeE 5 [6] (oi := _) (v := ?_) (by simp only [List.getElem?_toArray, List.getElem?_cons_succ, List.getElem?_cons_zero]; rfl) (by kernel_rfl) (by exact fun _ _ _ h => h) (by first | assumption | exact KB.refl _) (.inl ⟨by rfl, fun W hW => ?_⟩) ?_; rotate_left
      · (go_simp; first | done | with_reducible rfl)
      try simp only [Act.put, List.setIfInBounds_toArray, List.set_cons_zero, List.set_cons_succ]
      refine btakeE 7 [28, 13, 12, 11, 10, 9] (oi := _) (v := ?_) (by simp only [List.getElem?_toArray, List.getElem?_cons_succ, List.getElem?_cons_zero]; rfl) (by kernel_rfl) (by exact fun _ _ _ h => h) (by first | assumption | exact KB.refl _) (.inl ⟨by rfl, fun W hW => ?_⟩) ?_; rotate_left
      · (go_simp; first | done | with_reducible rfl)
      try simp only [Act.put, List.setIfInBounds_toArray, List.set_cons_zero, List.set_cons_succ]
      refine btakeE 8 [28, 13, 12, 11, 10, 9] (oi := _) (v := ?_) (by simp only [List.getElem?_toArray, List.getElem?_cons_succ, List.getElem?_cons_zero]; rfl) (by kernel_rfl) (by exact fun _ _ _ h => h) (by first | assumption | exact KB.refl _) (.inl ⟨by rfl, fun W hW => ?_⟩) ?_; rotate_left
      · (go_simp; first | done | with_reducible rfl)
      try simp only [Act.put, List.setIfInBounds_toArray, List.set_cons_zero, List.set_cons_succ]
      refine btakeE 9 [28, 13, 12, 11, 10] (oi := _) (v := ?_) (by simp only [List.getElem?_toArray, List.getElem?_cons_succ, List.getElem?_cons_zero]; rfl) (by kernel_rfl) (by exact fun _ _ _ h => h) (by first | assumption | exact KB.refl _) (.inl ⟨by rfl, fun W hW => ?_⟩) ?_; rotate_left
      · (go_simp; first | done | with_reducible rfl)
      try simp only [Act.put, List.setIfInBounds_toArray, List.set_cons_zero, List.set_cons_succ]
      refine btakeE 10 [28, 13, 12, 11] (oi := _) (v := ?_) (by simp only [List.getElem?_toArray, List.getElem?_cons_succ, List.getElem?_cons_zero]; rfl) (by kernel_rfl) (by exact fun _ _ _ h => h) (by first | assumption | exact KB.refl _) (.inl ⟨by rfl, fun W hW => ?_⟩) ?_; rotate_left
      · (go_simp; first | done | with_reducible rfl)
      try simp only [Act.put, List.setIfInBounds_toArray, List.set_cons_zero, List.set_cons_succ]
      refine btakeE 11 [28, 13, 12] (oi := _) (v := ?_) (by simp only [List.getElem?_toArray, List.getElem?_cons_succ, List.getElem?_cons_zero]; rfl) (by kernel_rfl) (by exact fun _ _ _ h => h) (by first | assumption | exact KB.refl _) (.inl ⟨by rfl, fun W hW => ?_⟩) ?_; rotate_left
      · (go_simp; first | done | with_reducible rfl)
      try simp only [Act.put, List.setIfInBounds_toArray, List.set_cons_zero, List.set_cons_succ]
      refine btakeE 12 [28, 13] (oi := _) (v := ?_) (by simp only [List.getElem?_toArray, List.getElem?_cons_succ, List.getElem?_cons_zero]; rfl) (by kernel_rfl) (by exact fun _ _ _ h => h) (by first | assumption | exact KB.refl _) (.inl ⟨by rfl, fun W hW => ?_⟩) ?_; rotate_left
      · (go_simp; first | done | with_reducible rfl)
      try simp only [Act.put, List.setIfInBounds_toArray, List.set_cons_zero, List.set_cons_succ]
      refine btakeE 13 [28] (oi := _) (v := ?_) (by simp only [List.getElem?_toArray, List.getElem?_cons_succ, List.getElem?_cons_zero]; rfl) (by kernel_rfl) (by exact fun _ _ _ h => h) (by first | assumption | exact KB.refl _) (.inl ⟨by rfl, fun W hW => ?_⟩) ?_; rotate_left
      · (go_simp; first | done | with_reducible rfl)
      try simp only [Act.put, List.setIfInBounds_toArray, List.set_cons_zero, List.set_cons_succ]
      refine btakeE 14 [28, 20, 19, 18, 17, 16] (oi := _) (v := ?_) (by simp only [List.getElem?_toArray, List.getElem?_cons_succ, List.getElem?_cons_zero]; rfl) (by kernel_rfl) (by exact fun _ _ _ h => h) (by first | assumption | exact KB.refl _) (.inl ⟨by rfl, fun W hW => ?_⟩) ?_; rotate_left
      · (go_simp; first | done | with_reducible rfl)
      try simp only [Act.put, List.setIfInBounds_toArray, List.set_cons_zero, List.set_cons_succ]
      refine btakeE 15 [28, 20, 19, 18, 17, 16] (oi := _) (v := ?_) (by simp only [List.getElem?_toArray, List.getElem?_cons_succ, List.getElem?_cons_zero]; rfl) (by kernel_rfl) (by exact fun _ _ _ h => h) (by first | assumption | exact KB.refl _) (.inl ⟨by rfl, fun W hW => ?_⟩) ?_; rotate_left
      · (go_simp; first | done | with_reducible rfl)
      try simp only [Act.put, List.setIfInBounds_toArray, List.set_cons_zero, List.set_cons_succ]
      refine btakeE 16 [28, 20, 19, 18, 17] (oi := _) (v := ?_) (by simp only [List.getElem?_toArray, List.getElem?_cons_succ, List.getElem?_cons_zero]; rfl) (by kernel_rfl) (by exact fun _ _ _ h => h) (by first | assumption | exact KB.refl _) (.inl ⟨by rfl, fun W hW => ?_⟩) ?_; rotate_left
      · (go_simp; first | done | with_reducible rfl)
      try simp only [Act.put, List.setIfInBounds_toArray, List.set_cons_zero, List.set_cons_succ]
      refine btakeE 17 [28, 20, 19, 18] (oi := _) (v := ?_) (by simp only [List.getElem?_toArray, List.getElem?_cons_succ, List.getElem?_cons_zero]; rfl) (by kernel_rfl) (by exact fun _ _ _ h => h) (by first | assumption | exact KB.refl _) (.inl ⟨by rfl, fun W hW => ?_⟩) ?_; rotate_left
      · (go_simp; first | done | with_reducible rfl)
      try simp only [Act.put, List.setIfInBounds_toArray, List.set_cons_zero, List.set_cons_succ]
      refine btakeE 18 [28, 20, 19] (oi := _) (v := ?_) (by simp only [List.getElem?_toArray, List.getElem?_cons_succ, List.getElem?_cons_zero]; rfl) (by kernel_rfl) (by exact fun _ _ _ h => h) (by first | assumption | exact KB.refl _) (.inl ⟨by rfl, fun W hW => ?_⟩) ?_; rotate_left
      · (go_simp; first | done | with_reducible rfl)
      try simp only [Act.put, List.setIfInBounds_toArray, List.set_cons_zero, List.set_cons_succ]
      refine btakeE 19 [28, 20] (oi := _) (v := ?_) (by simp only [List.getElem?_toArray, List.getElem?_cons_succ, List.getElem?_cons_zero]; rfl) (by kernel_rfl) (by exact fun _ _ _ h => h) (by first | assumption | exact KB.refl _) (.inl ⟨by rfl, fun W hW => ?_⟩) ?_; rotate_left
      · (go_simp; first | done | with_reducible rfl)
      try simp only [Act.put, List.setIfInBounds_toArray, List.set_cons_zero, List.set_cons_succ]
      refine btakeE 20 [28] (oi := _) (v := ?_) (by simp only [List.getElem?_toArray, List.getElem?_cons_succ, List.getElem?_cons_zero]; rfl) (by kernel_rfl) (by exact fun _ _ _ h => h) (by first | assumption | exact KB.refl _) (.inl ⟨by rfl, fun W hW => ?_⟩) ?_; rotate_left
      · (go_simp; first | done | with_reducible rfl)
      try simp only [Act.put, List.setIfInBounds_toArray, List.set_cons_zero, List.set_cons_succ]
      refine btakeE 21 [28, 27, 26, 25, 24, 23] (oi := _) (v := ?_) (by simp only [List.getElem?_toArray, List.getElem?_cons_succ, List.getElem?_cons_zero]; rfl) (by kernel_rfl) (by exact fun _ _ _ h => h) (by first | assumption | exact KB.refl _) (.inl ⟨by rfl, fun W hW => ?_⟩) ?_; rotate_left
      · (go_simp; first | done | with_reducible rfl)
      try simp only [Act.put, List.setIfInBounds_toArray, List.set_cons_zero, List.set_cons_succ]
      refine btakeE 22 [28, 27, 26, 25, 24, 23] (oi := _) (v := ?_) (by simp only [List.getElem?_toArray, List.getElem?_cons_succ, List.getElem?_cons_zero]; rfl) (by kernel_rfl) (by exact fun _ _ _ h => h) (by first | assumption | exact KB.refl _) (.inl ⟨by rfl, fun W hW => ?_⟩) ?_; rotate_left
      · (go_simp; first | done | with_reducible rfl)
      try simp only [Act.put, List.setIfInBounds_toArray, List.set_cons_zero, List.set_cons_succ]
      refine btakeE 23 [28, 27, 26, 25, 24] (oi := _) (v := ?_) (by simp only [List.getElem?_toArray, List.getElem?_cons_succ, List.getElem?_cons_zero]; rfl) (by kernel_rfl) (by exact fun _ _ _ h => h) (by first | assumption | exact KB.refl _) (.inl ⟨by rfl, fun W hW => ?_⟩) ?_; rotate_left
      · (go_simp; first | done | with_reducible rfl)
      try simp only [Act.put, List.setIfInBounds_toArray, List.set_cons_zero, List.set_cons_succ]
      refine btakeE 24 [28, 27, 26, 25] (oi := _) (v := ?_) (by simp only [List.getElem?_toArray, List.getElem?_cons_succ, List.getElem?_cons_zero]; rfl) (by kernel_rfl) (by exact fun _ _ _ h => h) (by first | assumption | exact KB.refl _) (.inl ⟨by rfl, fun W hW => ?_⟩) ?_; rotate_left
      · (go_simp; first | done | with_reducible rfl)
      try simp only [Act.put, List.setIfInBounds_toArray, List.set_cons_zero, List.set_cons_succ]
      refine btakeE 25 [28, 27, 26] (oi := _) (v := ?_) (by simp only [List.getElem?_toArray, List.getElem?_cons_succ, List.getElem?_cons_zero]; rfl) (by kernel_rfl) (by exact fun _ _ _ h => h) (by first | assumption | exact KB.refl _) (.inl ⟨by rfl, fun W hW => ?_⟩) ?_; rotate_left
      · (go_simp; first | done | with_reducible rfl)
      try simp only [Act.put, List.setIfInBounds_toArray, List.set_cons_zero, List.set_cons_succ]
      refine btakeE 26 [28, 27] (oi := _) (v := ?_) (by simp only [List.getElem?_toArray, List.getElem?_cons_succ, List.getElem?_cons_zero]; rfl) (by kernel_rfl) (by exact fun _ _ _ h => h) (by first | assumption | exact KB.refl _) (.inl ⟨by rfl, fun W hW => ?_⟩) ?_; rotate_left
      · (go_simp; first | done | with_reducible rfl)
      try simp only [Act.put, List.setIfInBounds_toArray, List.set_cons_zero, List.set_cons_succ]
      refine btakeE 27 [28] (oi := _) (v := ?_) (by simp only [List.getElem?_toArray, List.getElem?_cons_succ, List.getElem?_cons_zero]; rfl) (by kernel_rfl) (by exact fun _ _ _ h => h) (by first | assumption | exact KB.refl _) (.inl ⟨by rfl, fun W hW => ?_⟩) ?_; rotate_left
      · (go_simp; first | done | with_reducible rfl)
      try simp only [Act.put, List.setIfInBounds_toArray, List.set_cons_zero, List.set_cons_succ]
      refine btakeE 28 [] (oi := _) (v := ?_) (by simp only [List.getElem?_toArray, List.getElem?_cons_succ, List.getElem?_cons_zero]; rfl) (by kernel_rfl) (by exact fun _ _ _ h => h) (by first | assumption | exact KB.refl _) (.inl ⟨by rfl, fun W hW => ?_⟩) ?_; rotate_left
      · (go_simp; first | done | with_reducible rfl)
      try simp only [Act.put, List.setIfInBounds_toArray, List.set_cons_zero, List.set_cons_succ]
      refine btakeE 29 [35, 34, 33, 32, 31] (oi := _) (v := ?_) (by simp only [List.getElem?_toArray, List.getElem?_cons_succ, List.getElem?_cons_zero]; rfl) (by kernel_rfl) (by exact fun _ _ _ h => h) (by first | assumption | exact KB.refl _) (.inl ⟨by rfl, fun W hW => ?_⟩) ?_; rotate_left
      · (go_simp; first | done | with_reducible rfl)
      try simp only [Act.put, List.setIfInBounds_toArray, List.set_cons_zero, List.set_cons_succ]
      refine btakeE 30 [35, 34, 33, 32, 31] (oi := _) (v := ?_) (by simp only [List.getElem?_toArray, List.getElem?_cons_succ, List.getElem?_cons_zero]; rfl) (by kernel_rfl) (by exact fun _ _ _ h => h) (by first | assumption | exact KB.refl _) (.inl ⟨by rfl, fun W hW => ?_⟩) ?_; rotate_left
      · (go_simp; first | done | with_reducible rfl)
      try simp only [Act.put, List.setIfInBounds_toArray, List.set_cons_zero, List.set_cons_succ]
      refine btakeE 31 [35, 34, 33, 32] (oi := _) (v := ?_) (by simp only [List.getElem?_toArray, List.getElem?_cons_succ, List.getElem?_cons_zero]; rfl) (by kernel_rfl) (by exact fun _ _ _ h => h) (by first | assumption | exact KB.refl _) (.inl ⟨by rfl, fun W hW => ?_⟩) ?_; rotate_left
      · (go_simp; first | done | with_reducible rfl)
      try simp only [Act.put, List.setIfInBounds_toArray, List.set_cons_zero, List.set_cons_succ]
      refine btakeE 32 [35, 34, 33] (oi := _) (v := ?_) (by simp only [List.getElem?_toArray, List.getElem?_cons_succ, List.getElem?_cons_zero]; rfl) (by kernel_rfl) (by exact fun _ _ _ h => h) (by first | assumption | exact KB.refl _) (.inl ⟨by rfl, fun W hW => ?_⟩) ?_; rotate_left
      · (go_simp; first | done | with_reducible rfl)
      try simp only [Act.put, List.setIfInBounds_toArray, List.set_cons_zero, List.set_cons_succ]
      refine btakeE 33 [35, 34] (oi := _) (v := ?_) (by simp only [List.getElem?_toArray, List.getElem?_cons_succ, List.getElem?_cons_zero]; rfl) (by kernel_rfl) (by exact fun _ _ _ h => h) (by first | assumption | exact KB.refl _) (.inl ⟨by rfl, fun W hW => ?_⟩) ?_; rotate_left
      · (go_simp; first | done | with_reducible rfl)
      try simp only [Act.put, List.setIfInBounds_toArray, List.set_cons_zero, List.set_cons_succ]
      refine btakeE 34 [35] (oi := _) (v := ?_) (by simp only [List.getElem?_toArray, List.getElem?_cons_succ, List.getElem?_cons_zero]; rfl) (by kernel_rfl) (by exact fun _ _ _ h => h) (by first | assumption | exact KB.refl _) (.inl ⟨by rfl, fun W hW => ?_⟩) ?_; rotate_left
      · (go_simp; first | done | with_reducible rfl)
      try simp only [Act.put, List.setIfInBounds_toArray, List.set_cons_zero, List.set_cons_succ]
      refine btakeE 35 [] (oi := _) (v := ?_) (by simp only [List.getElem?_toArray, List.getElem?_cons_succ, List.getElem?_cons_zero]; rfl) (by kernel_rfl) (by exact fun _ _ _ h => h) (by first | assumption | exact KB.refl _) (.inl ⟨by rfl, fun W hW => ?_⟩) ?_; rotate_left
      · (go_simp; first | done | with_reducible rfl)
      try simp only [Act.put, List.setIfInBounds_toArray, List.set_cons_zero, List.set_cons_succ]
      -- 6: newsreel/newsreellaw17.id
      refine bopE 6 (o := _) (by simp only [List.getElem?_toArray, List.getElem?_cons_succ, List.getElem?_cons_zero]; rfl) (by kernel_rfl) (by rfl) (fun K hK => ?_)
      go_simp
      refine (id_any wr.drew a HFU.out.2).mono ?_
      rintro e w2 ⟨rfl, hb2⟩
      have hkb : KB wr.heap w2 := KB.of (Below.trans (Below.drew (Below.refl wr.heap.size wr)) hb2)
      have H2 := Lib.hid hb2
      clear hb2
      refine hK.out _ _ hkb ?_; clear hK K
      try simp only [Act.put, List.setIfInBounds_toArray, List.set_cons_zero, List.set_cons_succ]
      -- 36: (*newsreel/flags.Map).Put
      refine blastE 36 (o := _) (by simp only [List.getElem?_toArray, List.getElem?_cons_succ, List.getElem?_cons_zero]; rfl) (by kernel_rfl) (by rfl) (by rfl) (fun K hK => ?_)
      go_simp
      refine (HPut.out w2 (HX.out.1.drew.below H2.out)).mono ?_
      rintro e w3 ⟨rfl, hf3, hg3⟩
      have H3 := Lib.hid (And.intro hf3 hg3)
      clear hf3 hg3
      refine hK.out _ _ ?_; clear hK K
      try simp only
      refine bdoneE (by kernel_rfl) ?_
      clear f0 hS0 b0 b1 b2 b3 b4 d1 d2 d3 hkb
      go_wp2_with fail
      go_roundw
      case rel =>
        have hr := FU_right n
        rw [HFU.out.1] at hr
        have hp := H3.out.1
        unfold putIf at hp
        rw [if_pos (show (⟨(p : Int), (q : Int), (r : Int)⟩ : S3).right = true from hr)] at hp
        refine ⟨k + 1, by go_num, hlt, by rw [ofR_snoc HC.out, HFU.out.1]; exact hp, ?_, ?_⟩
        · have hbw : Below w.heap.size w w2 := HX.out.2.1.trans ((Below.trans (Below.drew (Below.refl wr.heap.size wr)) H2.out).mono HX.out.2.1.size)
          exact below_grown hbw H3.out.2 (Nat.le_refl _) hbw.size
        · exact Nat.le_trans HX.out.2.2 (Nat.le_trans H2.out.size H3.out.2.size)
      case measure => simp [intOf]; omega
    · obtain rfl : k = nn := by omega
      go_wp2_with fail
      go_ret
      have h1 := HX.out.1
      rw [HN.out.1, List.take_length] at h1
      exact ⟨_, _, rfl, h1, by omega, Nat.le_refl _, h1.1.1, HX.out.2.1⟩
end Go.Proofs.Ytjijhmeagjhfoaa

