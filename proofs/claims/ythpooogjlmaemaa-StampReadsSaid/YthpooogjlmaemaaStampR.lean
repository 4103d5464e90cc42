/- Stamps: read again. -/
import Derived.Test.YthpooogjlmaemaaStamp
import Derived.Test.YthpooogjlmaemaaNumFix
namespace Go.Proofs.Ythpooogjlmaemaa
open Go.RowKit Go.Proofs.Ythpooogjlmaemaa.Pl

theorem big_lt (l : List UInt8) : big l < 256 ^ (min l.length 8) := by
  rw [big_of l _ rfl]
  exact big_take_lt l _
/-- which stamp nine bytes are, and the error -/
def nineS (l : List UInt8) : S3 × Int := if (l[8]?.getD 0).toNat < 64 then (⟨(big (l.take 6) : Nat), (big ((l.drop 6).take 2) : Nat), ((l[8]?.getD 0).toNat : Nat)⟩, 0) else (⟨0, 0, 0⟩, 21)
set_option maxRecDepth 100000 in
set_option maxHeartbeats 1600000 in
theorem Read_short (w : World) (A : Option Addr) (n c : Nat) (h9 : n < 9) :
    Calls Try.prog 18 #[.slice A n c] w fun e w' => e = .returned (.tuple #[S3.v ⟨0, 0, 0⟩, .int .i64 20]) ∧ Below w.heap.size w w' := by
  have d9 : decide ((n : Int) < 9) = true := by simp; omega
  go_enter Try.func18, Try.ntmps18
  go_wp2_with fail
  exact bodyPost_ret (v := .tuple #[.agg #[.int .i64 0, .int .i64 0, .int .i64 0], .int .i64 20]) (by simp [results, Try.results18, go_sem]) rfl ⟨rfl, (Below.refl _ _).alloc (Nat.le_refl _) _⟩
set_option maxRecDepth 100000 in
set_option maxHeartbeats 1600000 in
theorem Read_long (w : World) (A : Option Addr) (n c : Nat) (h9 : 9 < n) :
    Calls Try.prog 18 #[.slice A n c] w fun e w' => e = .returned (.tuple #[S3.v ⟨0, 0, 0⟩, .int .i64 21]) ∧ Below w.heap.size w w' := by
  have d9 : decide ((n : Int) < 9) = false := by simp; omega
  have d8 : decide (9 < (n : Int)) = true := by simp; omega
  go_enter Try.func18, Try.ntmps18
  go_wp2_with fail
  exact bodyPost_ret (v := .tuple #[.agg #[.int .i64 0, .int .i64 0, .int .i64 0], .int .i64 21]) (by simp [results, Try.results18, go_sem]) rfl ⟨rfl, (Below.refl _ _).alloc (Nat.le_refl _) _⟩
set_option maxRecDepth 100000 in
set_option maxHeartbeats 1600000 in
theorem Read_nine (w : World) (A : Option Addr) (c : Nat) (l : List UInt8) (hb : Sl w w.heap.size A (bv l)) (h9 : l.length = 9) (hc : 9 ≤ c) (hm : c ≤ maxLen) :
    Calls Try.prog 18 #[.slice A 9 c] w fun e w' => e = .returned (.tuple #[S3.v (nineS l).1, .int .i64 (nineS l).2]) ∧ Below w.heap.size w w' := by
  obtain ⟨b, o, rfl, hbB, hbW, hcell⟩ := hb.at_ (k := 8) (by simp; omega)
  have hck := hcell 8 _ (bv_get l 8 (by omega))
  unfold maxLen at hm
  unfold nineS
  have hx := (l[8]?.getD 0).toNat_lt
  generalize (l[8]?.getD 0).toNat = x at *
  clear hcell
  by_cases h64 : x < 64
  · rw [if_pos h64]
    have d6 : decide (64 ≤ (x : Int)) = false := by simp; omega
    have hB6 := fun W (hW : KB w.heap W) => Big_any W w.heap.size (some ⟨b, o, none⟩) c (l.take 6) (by have := (hb.kb hW).tk 6; rw [bv_take] at this; exact this) (by rw [List.length_take]; omega) (by simp only [maxLen]; omega)
    have hB2 := fun W (hW : KB w.heap W) => Big_any W w.heap.size (if c = 6 then some ⟨b, o, none⟩ else (some ⟨b, o, none⟩ : Option Addr).map (·.add 6)) (c - 6) ((l.drop 6).take 2) (by have := ((hb.kb hW).cut 6 c (by simp; omega)).tk 2; rw [bv_drop, bv_take] at this; exact this) (by rw [List.length_take, List.length_drop]; omega) (by simp only [maxLen]; omega)
    rw [List.length_take, show min 6 l.length = 6 by omega] at hB6
    rw [List.length_take, List.length_drop, show min 2 (l.length - 6) = 2 by omega, if_neg (by omega)] at hB2
    have hl6 := big_lt (l.take 6)
    have hl2 := big_lt ((l.drop 6).take 2)
    generalize big (l.take 6) = P at *
    generalize big ((l.drop 6).take 2) = L at *
    have HB := Lib.hid (And.intro hB6 hB2)
    clear hB6 hB2
    have hck' := cellB hck
    have k1 : IntKind.i64.wrap (P : Int) = (P : Int) := by
      have : (256 : Nat) ^ min (l.take 6).length 8 ≤ 256 ^ 6 := Nat.pow_le_pow_right (by omega) (by rw [List.length_take]; omega)
      rw [IntKind.wrap_i64]; omega
    have k2 : IntKind.i64.wrap (L : Int) = (L : Int) := by
      have : (256 : Nat) ^ min ((l.drop 6).take 2).length 8 ≤ 256 ^ 2 := Nat.pow_le_pow_right (by omega) (by rw [List.length_take]; omega)
      rw [IntKind.wrap_i64]; omega
    have k3 : IntKind.i64.wrap (x : Int) = (x : Int) := by rw [IntKind.wrap_i64]; omega
    have i6 : (6 : Int) ≤ (c : Int) := by omega
    have i8 : (8 : Int) ≤ (c : Int) := by omega
    have ic : ¬ c = 6 := by omega
    clear hl6 hl2 h9
    go_enter Try.func18, Try.ntmps18
    go_wp2_with fail
    have hS0 : KB w.heap (w.alloc (.cells #[.int .i64 0, .int .i64 0, .int .i64 0] 23)).drew := KB.alloc w _
    refine bstartH (w.heap) (by kernel_rfl) ?_
    refine btake 0 (oi := _) (v := ?_) (by simp only [List.getElem?_toArray, List.getElem?_cons_zero]; rfl) (by kernel_rfl) (by exact fun _ _ _ h => h) (by first | assumption | exact KB.refl _) (.inl ⟨by rfl, fun W hW => ?_⟩) ?_; rotate_left
    · (go_simp; first | done | with_reducible rfl)
    try simp only [Act.put, List.setIfInBounds_toArray, List.set_cons_zero, List.set_cons_succ]
    refine btake 1 (oi := _) (v := ?_) (by simp only [List.getElem?_toArray, List.getElem?_cons_succ, List.getElem?_cons_zero]; rfl) (by kernel_rfl) (by exact fun _ _ _ h => h) (by first | assumption | exact KB.refl _) (.inl ⟨by rfl, fun W hW => ?_⟩) ?_; rotate_left
    · (go_simp; first | done | with_reducible rfl)
    try simp only [Act.put, List.setIfInBounds_toArray, List.set_cons_zero, List.set_cons_succ]
    -- 2: newsreel/num.Big
    refine bquiet 2 (oi := _) ?_ (by simp only [List.getElem?_toArray, List.getElem?_cons_succ, List.getElem?_cons_zero]; rfl) (by kernel_rfl) (by exact fun _ _ _ h => h) (by first | assumption | exact KB.refl _) (by rfl) (fun W hW => by go_simp; first | done | exact ⟨rfl, rfl⟩ | rfl) (fun W hW => ?_) ?_; rotate_left
    · exact HB.out.1 W hW
    try simp only [Act.put, List.setIfInBounds_toArray, List.set_cons_zero, List.set_cons_succ]
    refine btake 3 (oi := _) (v := ?_) (by simp only [List.getElem?_toArray, List.getElem?_cons_succ, List.getElem?_cons_zero]; rfl) (by kernel_rfl) (by exact fun _ _ _ h => h) (by first | assumption | exact KB.refl _) (.inl ⟨by rfl, fun W hW => ?_⟩) ?_; rotate_left
    · (go_simp; first | done | with_reducible rfl)
    try simp only [Act.put, List.setIfInBounds_toArray, List.set_cons_zero, List.set_cons_succ]
    refine btake 4 (oi := _) (v := ?_) (by simp only [List.getElem?_toArray, List.getElem?_cons_succ, List.getElem?_cons_zero]; rfl) (by kernel_rfl) (by exact fun _ _ _ h => h) (by first | assumption | exact KB.refl _) (.inl ⟨by rfl, fun W hW => ?_⟩) ?_; rotate_left
    · (go_simp; first | done | with_reducible rfl)
    try simp only [Act.put, List.setIfInBounds_toArray, List.set_cons_zero, List.set_cons_succ]
    refine btake 5 (oi := _) (v := ?_) (by simp only [List.getElem?_toArray, List.getElem?_cons_succ, List.getElem?_cons_zero]; rfl) (by kernel_rfl) (by exact fun _ _ _ h => h) (by first | assumption | exact KB.refl _) (.inl ⟨by rfl, fun W hW => ?_⟩) ?_; rotate_left
    · (go_simp; first | done | with_reducible rfl)
    try simp only [Act.put, List.setIfInBounds_toArray, List.set_cons_zero, List.set_cons_succ]
    -- 6: newsreel/num.Big
    refine bquiet 6 (oi := _) ?_ (by simp only [List.getElem?_toArray, List.getElem?_cons_succ, List.getElem?_cons_zero]; rfl) (by kernel_rfl) (by exact fun _ _ _ h => h) (by first | assumption | exact KB.refl _) (by rfl) (fun W hW => by go_simp; first | done | exact ⟨rfl, rfl⟩ | rfl) (fun W hW => ?_) ?_; rotate_left
    · exact HB.out.2 W hW
    try simp only [Act.put, List.setIfInBounds_toArray, List.set_cons_zero, List.set_cons_succ]
    refine btake 7 (oi := _) (v := ?_) (by simp only [List.getElem?_toArray, List.getElem?_cons_succ, List.getElem?_cons_zero]; rfl) (by kernel_rfl) (by exact fun _ _ _ h => h) (by first | assumption | exact KB.refl _) (.inl ⟨by rfl, fun W hW => ?_⟩) ?_; rotate_left
    · (go_simp; first | done | with_reducible rfl)
    try simp only [Act.put, List.setIfInBounds_toArray, List.set_cons_zero, List.set_cons_succ]
    refine btake 8 (oi := _) (v := ?_) (by simp only [List.getElem?_toArray, List.getElem?_cons_succ, List.getElem?_cons_zero]; rfl) (by kernel_rfl) (by exact fun _ _ _ h => h) (by first | assumption | exact KB.refl _) (.inl ⟨by rfl, fun W hW => ?_⟩) ?_; rotate_left
    · (go_simp; first | done | with_reducible rfl)
    try simp only [Act.put, List.setIfInBounds_toArray, List.set_cons_zero, List.set_cons_succ]
    refine btake 9 (oi := _) (v := ?_) (by simp only [List.getElem?_toArray, List.getElem?_cons_succ, List.getElem?_cons_zero]; rfl) (by kernel_rfl) (by exact fun _ _ _ h => h) (by first | assumption | exact KB.refl _) (.inl ⟨by rfl, fun W hW => ?_⟩) ?_; rotate_left
    · (go_simp; first | done | with_reducible rfl)
    try simp only [Act.put, List.setIfInBounds_toArray, List.set_cons_zero, List.set_cons_succ]
    refine btake 10 (oi := _) (v := ?_) (by simp only [List.getElem?_toArray, List.getElem?_cons_succ, List.getElem?_cons_zero]; rfl) (by kernel_rfl) (by exact fun _ _ _ h => h) (by first | assumption | exact KB.refl _) (.inl ⟨by rfl, fun W hW => ?_⟩) ?_; rotate_left
    · (go_simp; first | done | with_reducible rfl)
    try simp only [Act.put, List.setIfInBounds_toArray, List.set_cons_zero, List.set_cons_succ]
    refine btake 11 (oi := _) (v := ?_) (by simp only [List.getElem?_toArray, List.getElem?_cons_succ, List.getElem?_cons_zero]; rfl) (by kernel_rfl) (by exact fun _ _ _ h => h) (by first | assumption | exact KB.refl _) (.inl ⟨by rfl, fun W hW => ?_⟩) ?_; rotate_left
    · (go_simp; first | done | with_reducible rfl)
    try simp only [Act.put, List.setIfInBounds_toArray, List.set_cons_zero, List.set_cons_succ]
    refine btake 12 (oi := _) (v := ?_) (by simp only [List.getElem?_toArray, List.getElem?_cons_succ, List.getElem?_cons_zero]; rfl) (by kernel_rfl) (by exact fun _ _ _ h => h) (by first | assumption | exact KB.refl _) (.inl ⟨by rfl, fun W hW => ?_⟩) ?_; rotate_left
    · (go_simp; first | done | with_reducible rfl)
    try simp only [Act.put, List.setIfInBounds_toArray, List.set_cons_zero, List.set_cons_succ]
    -- 13: Op.store 23 (Operand.tmp 2) (Operand.tmp 30)
    refine bopH 13 (o := _) (by simp only [List.getElem?_toArray, List.getElem?_cons_succ, List.getElem?_cons_zero]; rfl) (by kernel_rfl) (by first | assumption | exact KB.refl _) (by rfl) (fun K hK => ?_)
    go_simp
    have hkb : KB w.heap (w.alloc (.cells #[.int .i64 (P : Int), .int .i64 (L : Int), .int .i64 (x : Int)] 23)).drew := KB.alloc w _
    refine hK.out _ _ hkb ?_; clear hK K
    try simp only [Act.put, List.setIfInBounds_toArray, List.set_cons_zero, List.set_cons_succ]
    refine btake 14 (oi := _) (v := ?_) (by simp only [List.getElem?_toArray, List.getElem?_cons_succ, List.getElem?_cons_zero]; rfl) (by kernel_rfl) (by exact fun _ _ _ h => h) (by first | assumption | exact KB.refl _) (.inl ⟨by rfl, fun W hW => ?_⟩) ?_; rotate_left
    · (go_simp; first | done | with_reducible rfl)
    try simp only [Act.put, List.setIfInBounds_toArray, List.set_cons_zero, List.set_cons_succ]
    refine bdone (by kernel_rfl) ?_
    go_wp2_with fail
    exact bodyPost_ret (v := .tuple #[.agg #[.int .i64 (P : Int), .int .i64 (L : Int), .int .i64 (x : Int)], .int .i64 0]) (by simp [results, Try.results18, go_sem]) rfl ⟨rfl, ((Below.refl _ _).alloc (Nat.le_refl _) _).drew⟩
  · rw [if_neg h64]
    have d6 : decide (64 ≤ (x : Int)) = true := by simp; omega
    go_enter Try.func18, Try.ntmps18
    go_wp2_with fail
    exact bodyPost_ret (v := .tuple #[.agg #[.int .i64 0, .int .i64 0, .int .i64 0], .int .i64 21]) (by simp [results, Try.results18, go_sem]) rfl ⟨rfl, (Below.refl _ _).alloc (Nat.le_refl _) _⟩
set_option maxRecDepth 100000 in
set_option maxHeartbeats 1600000 in
theorem RefRead_short (w : World) (A : Option Addr) (n c : Nat) (h9 : n < 9) :
    Calls Try.prog 19 #[.slice A n c] w fun e w' => e = .returned (.tuple #[S3.v ⟨0, 0, 0⟩, .int .i64 20]) ∧ Below w.heap.size w w' := by
  have d9 : decide ((n : Int) < 9) = true := by simp; omega
  go_enter Try.func19, Try.ntmps19
  go_wp2_with fail
  exact bodyPost_ret (v := .tuple #[.agg #[.int .i64 0, .int .i64 0, .int .i64 0], .int .i64 20]) (by simp [results, Try.results19, go_sem]) rfl ⟨rfl, (Below.refl _ _).alloc (Nat.le_refl _) _⟩
set_option maxRecDepth 100000 in
set_option maxHeartbeats 1600000 in
theorem RefRead_long (w : World) (A : Option Addr) (n c : Nat) (h9 : 9 < n) :
    Calls Try.prog 19 #[.slice A n c] w fun e w' => e = .returned (.tuple #[S3.v ⟨0, 0, 0⟩, .int .i64 21]) ∧ Below w.heap.size w w' := by
  have d9 : decide ((n : Int) < 9) = false := by simp; omega
  have d8 : decide (9 < (n : Int)) = true := by simp; omega
  go_enter Try.func19, Try.ntmps19
  go_wp2_with fail
  exact bodyPost_ret (v := .tuple #[.agg #[.int .i64 0, .int .i64 0, .int .i64 0], .int .i64 21]) (by simp [results, Try.results19, go_sem]) rfl ⟨rfl, (Below.refl _ _).alloc (Nat.le_refl _) _⟩
set_option maxRecDepth 100000 in
set_option maxHeartbeats 1600000 in
theorem RefRead_nine (w : World) (A : Option Addr) (c : Nat) (l : List UInt8) (hb : Sl w w.heap.size A (bv l)) (h9 : l.length = 9) (hc : 9 ≤ c) (hm : c ≤ maxLen) :
    Calls Try.prog 19 #[.slice A 9 c] w fun e w' => e = .returned (.tuple #[S3.v (nineS l).1, .int .i64 (nineS l).2]) ∧ Below w.heap.size w w' := by
  obtain ⟨b, o, rfl, hbB, hbW, hcell⟩ := hb.at_ (k := 8) (by simp; omega)
  have hck := hcell 8 _ (bv_get l 8 (by omega))
  unfold maxLen at hm
  unfold nineS
  have hx := (l[8]?.getD 0).toNat_lt
  generalize (l[8]?.getD 0).toNat = x at *
  clear hcell
  by_cases h64 : x < 64
  · rw [if_pos h64]
    have d6 : decide (64 ≤ (x : Int)) = false := by simp; omega
    have hB6 := fun W (hW : KB w.heap W) => RefBig_any W w.heap.size (some ⟨b, o, none⟩) c (l.take 6) (by have := (hb.kb hW).tk 6; rw [bv_take] at this; exact this) (by rw [List.length_take]; omega) (by simp only [maxLen]; omega)
    have hB2 := fun W (hW : KB w.heap W) => RefBig_any W w.heap.size (if c = 6 then some ⟨b, o, none⟩ else (some ⟨b, o, none⟩ : Option Addr).map (·.add 6)) (c - 6) ((l.drop 6).take 2) (by have := ((hb.kb hW).cut 6 c (by simp; omega)).tk 2; rw [bv_drop, bv_take] at this; exact this) (by rw [List.length_take, List.length_drop]; omega) (by simp only [maxLen]; omega)
    rw [List.length_take, show min 6 l.length = 6 by omega] at hB6
    rw [List.length_take, List.length_drop, show min 2 (l.length - 6) = 2 by omega, if_neg (by omega)] at hB2
    have hl6 := big_lt (l.take 6)
    have hl2 := big_lt ((l.drop 6).take 2)
    generalize big (l.take 6) = P at *
    generalize big ((l.drop 6).take 2) = L at *
    have HB := Lib.hid (And.intro hB6 hB2)
    clear hB6 hB2
    have hck' := cellB hck
    have k1 : IntKind.i64.wrap (P : Int) = (P : Int) := by
      have : (256 : Nat) ^ min (l.take 6).length 8 ≤ 256 ^ 6 := Nat.pow_le_pow_right (by omega) (by rw [List.length_take]; omega)
      rw [IntKind.wrap_i64]; omega
    have k2 : IntKind.i64.wrap (L : Int) = (L : Int) := by
      have : (256 : Nat) ^ min ((l.drop 6).take 2).length 8 ≤ 256 ^ 2 := Nat.pow_le_pow_right (by omega) (by rw [List.length_take]; omega)
      rw [IntKind.wrap_i64]; omega
    have k3 : IntKind.i64.wrap (x : Int) = (x : Int) := by rw [IntKind.wrap_i64]; omega
    have i6 : (6 : Int) ≤ (c : Int) := by omega
    have i8 : (8 : Int) ≤ (c : Int) := by omega
    have ic : ¬ c = 6 := by omega
    clear hl6 hl2 h9
    go_enter Try.func19, Try.ntmps19
    go_wp2_with fail
    have hS0 : KB w.heap (w.alloc (.cells #[.int .i64 0, .int .i64 0, .int .i64 0] 23)).drew := KB.alloc w _
    refine bstartH (w.heap) (by kernel_rfl) ?_
    refine btake 0 (oi := _) (v := ?_) (by simp only [List.getElem?_toArray, List.getElem?_cons_zero]; rfl) (by kernel_rfl) (by exact fun _ _ _ h => h) (by first | assumption | exact KB.refl _) (.inl ⟨by rfl, fun W hW => ?_⟩) ?_; rotate_left
    · (go_simp; first | done | with_reducible rfl)
    try simp only [Act.put, List.setIfInBounds_toArray, List.set_cons_zero, List.set_cons_succ]
    refine btake 1 (oi := _) (v := ?_) (by simp only [List.getElem?_toArray, List.getElem?_cons_succ, List.getElem?_cons_zero]; rfl) (by kernel_rfl) (by exact fun _ _ _ h => h) (by first | assumption | exact KB.refl _) (.inl ⟨by rfl, fun W hW => ?_⟩) ?_; rotate_left
    · (go_simp; first | done | with_reducible rfl)
    try simp only [Act.put, List.setIfInBounds_toArray, List.set_cons_zero, List.set_cons_succ]
    -- 2: newsreel/newsreelref1.Big
    refine bquiet 2 (oi := _) ?_ (by simp only [List.getElem?_toArray, List.getElem?_cons_succ, List.getElem?_cons_zero]; rfl) (by kernel_rfl) (by exact fun _ _ _ h => h) (by first | assumption | exact KB.refl _) (by rfl) (fun W hW => by go_simp; first | done | exact ⟨rfl, rfl⟩ | rfl) (fun W hW => ?_) ?_; rotate_left
    · exact HB.out.1 W hW
    try simp only [Act.put, List.setIfInBounds_toArray, List.set_cons_zero, List.set_cons_succ]
    refine btake 3 (oi := _) (v := ?_) (by simp only [List.getElem?_toArray, List.getElem?_cons_succ, List.getElem?_cons_zero]; rfl) (by kernel_rfl) (by exact fun _ _ _ h => h) (by first | assumption | exact KB.refl _) (.inl ⟨by rfl, fun W hW => ?_⟩) ?_; rotate_left
    · (go_simp; first | done | with_reducible rfl)
    try simp only [Act.put, List.setIfInBounds_toArray, List.set_cons_zero, List.set_cons_succ]
    refine btake 4 (oi := _) (v := ?_) (by simp only [List.getElem?_toArray, List.getElem?_cons_succ, List.getElem?_cons_zero]; rfl) (by kernel_rfl) (by exact fun _ _ _ h => h) (by first | assumption | exact KB.refl _) (.inl ⟨by rfl, fun W hW => ?_⟩) ?_; rotate_left
    · (go_simp; first | done | with_reducible rfl)
    try simp only [Act.put, List.setIfInBounds_toArray, List.set_cons_zero, List.set_cons_succ]
    refine btake 5 (oi := _) (v := ?_) (by simp only [List.getElem?_toArray, List.getElem?_cons_succ, List.getElem?_cons_zero]; rfl) (by kernel_rfl) (by exact fun _ _ _ h => h) (by first | assumption | exact KB.refl _) (.inl ⟨by rfl, fun W hW => ?_⟩) ?_; rotate_left
    · (go_simp; first | done | with_reducible rfl)
    try simp only [Act.put, List.setIfInBounds_toArray, List.set_cons_zero, List.set_cons_succ]
    -- 6: newsreel/newsreelref1.Big
    refine bquiet 6 (oi := _) ?_ (by simp only [List.getElem?_toArray, List.getElem?_cons_succ, List.getElem?_cons_zero]; rfl) (by kernel_rfl) (by exact fun _ _ _ h => h) (by first | assumption | exact KB.refl _) (by rfl) (fun W hW => by go_simp; first | done | exact ⟨rfl, rfl⟩ | rfl) (fun W hW => ?_) ?_; rotate_left
    · exact HB.out.2 W hW
    try simp only [Act.put, List.setIfInBounds_toArray, List.set_cons_zero, List.set_cons_succ]
    refine btake 7 (oi := _) (v := ?_) (by simp only [List.getElem?_toArray, List.getElem?_cons_succ, List.getElem?_cons_zero]; rfl) (by kernel_rfl) (by exact fun _ _ _ h => h) (by first | assumption | exact KB.refl _) (.inl ⟨by rfl, fun W hW => ?_⟩) ?_; rotate_left
    · (go_simp; first | done | with_reducible rfl)
    try simp only [Act.put, List.setIfInBounds_toArray, List.set_cons_zero, List.set_cons_succ]
    refine btake 8 (oi := _) (v := ?_) (by simp only [List.getElem?_toArray, List.getElem?_cons_succ, List.getElem?_cons_zero]; rfl) (by kernel_rfl) (by exact fun _ _ _ h => h) (by first | assumption | exact KB.refl _) (.inl ⟨by rfl, fun W hW => ?_⟩) ?_; rotate_left
    · (go_simp; first | done | with_reducible rfl)
    try simp only [Act.put, List.setIfInBounds_toArray, List.set_cons_zero, List.set_cons_succ]
    refine btake 9 (oi := _) (v := ?_) (by simp only [List.getElem?_toArray, List.getElem?_cons_succ, List.getElem?_cons_zero]; rfl) (by kernel_rfl) (by exact fun _ _ _ h => h) (by first | assumption | exact KB.refl _) (.inl ⟨by rfl, fun W hW => ?_⟩) ?_; rotate_left
    · (go_simp; first | done | with_reducible rfl)
    try simp only [Act.put, List.setIfInBounds_toArray, List.set_cons_zero, List.set_cons_succ]
    refine btake 10 (oi := _) (v := ?_) (by simp only [List.getElem?_toArray, List.getElem?_cons_succ, List.getElem?_cons_zero]; rfl) (by kernel_rfl) (by exact fun _ _ _ h => h) (by first | assumption | exact KB.refl _) (.inl ⟨by rfl, fun W hW => ?_⟩) ?_; rotate_left
    · (go_simp; first | done | with_reducible rfl)
    try simp only [Act.put, List.setIfInBounds_toArray, List.set_cons_zero, List.set_cons_succ]
    refine btake 11 (oi := _) (v := ?_) (by simp only [List.getElem?_toArray, List.getElem?_cons_succ, List.getElem?_cons_zero]; rfl) (by kernel_rfl) (by exact fun _ _ _ h => h) (by first | assumption | exact KB.refl _) (.inl ⟨by rfl, fun W hW => ?_⟩) ?_; rotate_left
    · (go_simp; first | done | with_reducible rfl)
    try simp only [Act.put, List.setIfInBounds_toArray, List.set_cons_zero, List.set_cons_succ]
    refine btake 12 (oi := _) (v := ?_) (by simp only [List.getElem?_toArray, List.getElem?_cons_succ, List.getElem?_cons_zero]; rfl) (by kernel_rfl) (by exact fun _ _ _ h => h) (by first | assumption | exact KB.refl _) (.inl ⟨by rfl, fun W hW => ?_⟩) ?_; rotate_left
    · (go_simp; first | done | with_reducible rfl)
    try simp only [Act.put, List.setIfInBounds_toArray, List.set_cons_zero, List.set_cons_succ]
    -- 13: Op.store 23 (Operand.tmp 2) (Operand.tmp 30)
    refine bopH 13 (o := _) (by simp only [List.getElem?_toArray, List.getElem?_cons_succ, List.getElem?_cons_zero]; rfl) (by kernel_rfl) (by first | assumption | exact KB.refl _) (by rfl) (fun K hK => ?_)
    go_simp
    have hkb : KB w.heap (w.alloc (.cells #[.int .i64 (P : Int), .int .i64 (L : Int), .int .i64 (x : Int)] 23)).drew := KB.alloc w _
    refine hK.out _ _ hkb ?_; clear hK K
    try simp only [Act.put, List.setIfInBounds_toArray, List.set_cons_zero, List.set_cons_succ]
    refine btake 14 (oi := _) (v := ?_) (by simp only [List.getElem?_toArray, List.getElem?_cons_succ, List.getElem?_cons_zero]; rfl) (by kernel_rfl) (by exact fun _ _ _ h => h) (by first | assumption | exact KB.refl _) (.inl ⟨by rfl, fun W hW => ?_⟩) ?_; rotate_left
    · (go_simp; first | done | with_reducible rfl)
    try simp only [Act.put, List.setIfInBounds_toArray, List.set_cons_zero, List.set_cons_succ]
    refine bdone (by kernel_rfl) ?_
    go_wp2_with fail
    exact bodyPost_ret (v := .tuple #[.agg #[.int .i64 (P : Int), .int .i64 (L : Int), .int .i64 (x : Int)], .int .i64 0]) (by simp [results, Try.results19, go_sem]) rfl ⟨rfl, ((Below.refl _ _).alloc (Nat.le_refl _) _).drew⟩
  · rw [if_neg h64]
    have d6 : decide (64 ≤ (x : Int)) = true := by simp; omega
    go_enter Try.func19, Try.ntmps19
    go_wp2_with fail
    exact bodyPost_ret (v := .tuple #[.agg #[.int .i64 0, .int .i64 0, .int .i64 0], .int .i64 21]) (by simp [results, Try.results19, go_sem]) rfl ⟨rfl, (Below.refl _ _).alloc (Nat.le_refl _) _⟩
end Go.Proofs.Ythpooogjlmaemaa

