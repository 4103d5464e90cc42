/- Numbers as bytes: Fixed, Big, and the document's. -/
import Derived.Test.YthpooogjlmaemaaMem
import Derived.Test.YthpooogjlmaemaaPNum
import Derived.Laws.BitsAllLaws
namespace Go.Proofs.Ythpooogjlmaemaa
open Go.RowKit Go.Proofs.Ythpooogjlmaemaa.Pl

def BigRel (l : List UInt8) (x3 x12 : Value) : Prop := ∃ k : Nat, k ≤ min l.length 8 ∧ x12 = .int .i64 (k : Int) ∧ x3 = .int .u64 (bigF 0 (l.take k) : Int)
set_option maxRecDepth 100000 in
/-- 'a << 8 | y' -/
theorem shl8_or (a y : Nat) (hy : y < 256) (h : a * 256 + y < 18446744073709551616) : bits .or .u64 (IntKind.u64.wrap ((a : Int) * 256)) (y : Int) = ((a * 256 + y : Nat) : Int) := by
  have e : IntKind.u64.wrap ((a : Int) * 256) = ((a * 256 : Nat) : Int) := by
    rw [IntKind.wrap_u64]; omega
  rw [e, u64_or_nat _ _ (by omega) (by omega), nat_join 8 _ _ (by omega) (by omega)]
theorem big_of (l : List UInt8) (k : Nat) (h : k = min l.length 8) : big l = bigF 0 (l.take k) := by
  unfold big
  subst h
  congr 1
  rw [List.take_eq_take_iff]
  omega

set_option maxRecDepth 100000 in
set_option maxHeartbeats 800000 in
theorem Big_any (w : World) (B : Nat) (A : Option Addr) (c : Nat) (l : List UInt8) (hb : Sl w B A (bv l)) (hc : l.length ≤ c) (hn : c ≤ maxLen) :
    Calls Try.prog 37 #[.slice A l.length c] w fun e w' => e = .returned (.int .u64 (big l : Int)) ∧ w = w' := by
  unfold maxLen at hn
  have hm : (l.length ≤ 8 ∧ min l.length 8 = l.length) ∨ (8 < l.length ∧ min l.length 8 = 8) := by omega
  rcases hm with ⟨hm, hM⟩ | ⟨hm, hM⟩
  all_goals
    have HM := Lib.hid hM
    clear hM
    go_enter Try.func37, Try.ntmps37
    go_wp2_with fail
    go_loop [3, 12] (fun x3 x12 => BigRel l x3 x12) (fun _ x12 => min l.length 8 - (intOf x12).toNat)
    case atStart => exact ⟨0, by omega, rfl, rfl⟩
    case round =>
      obtain ⟨k, hk, rfl, rfl⟩ := hrel
      by_cases hlt : k < min l.length 8
      · obtain ⟨b, o, rfl, hbB, hbW, hcell⟩ := hb.at_ (k := k) (by simp; omega)
        have hck := hcell k _ (bv_get l k (by omega))
        have hx256 := (l[k]?.getD 0).toNat_lt
        have hs := big_take_succ l k (by omega)
        have hl := big_take_lt l k
        have hx : at_ l k = (l[k]?.getD 0).toNat := rfl
        generalize (l[k]?.getD 0).toNat = x at hck hx256 hx
        have hp : 256 ^ (k + 1) ≤ 256 ^ 8 := Nat.pow_le_pow_right (by omega) (by omega)
        rw [Nat.pow_succ] at hp
        rw [hx] at hs
        generalize bigF 0 (l.take k) = a at hs hl
        have ho := shl8_or a x hx256 (by omega)
        have Hs := Lib.hid hs
        have Ho := Lib.hid ho
        clear hcell hb hx hs hl hp ho
        go_wp2_with fail
        go_round
        case rel => exact ⟨k + 1, by omega, by go_num, by rw [Ho.out, Hs.out]⟩
        case measure => simp [intOf]; omega
      · have T := Lib.hid (big_of l k (by omega))
        clear hb
        go_wp2_with fail
        go_ret
        rw [T.out]
        exact ⟨rfl, rfl⟩

set_option maxRecDepth 100000 in
set_option maxHeartbeats 800000 in
theorem RefBig_any (w : World) (B : Nat) (A : Option Addr) (c : Nat) (l : List UInt8) (hb : Sl w B A (bv l)) (hc : l.length ≤ c) (hn : c ≤ maxLen) :
    Calls Try.prog 38 #[.slice A l.length c] w fun e w' => e = .returned (.int .u64 (big l : Int)) ∧ w = w' := by
  unfold maxLen at hn
  go_enter Try.func38, Try.ntmps38
  go_wp2_with fail
  go_loop [3, 4] (fun x3 x12 => BigRel l x3 x12) (fun _ x12 => min l.length 8 - (intOf x12).toNat)
  case atStart => exact ⟨0, by omega, rfl, rfl⟩
  case round =>
    obtain ⟨k, hk, rfl, rfl⟩ := hrel
    by_cases hlt : k < min l.length 8
    · obtain ⟨b, o, rfl, hbB, hbW, hcell⟩ := hb.at_ (k := k) (by simp; omega)
      have hck := hcell k _ (bv_get l k (by omega))
      have hx256 := (l[k]?.getD 0).toNat_lt
      have hs := big_take_succ l k (by omega)
      have hl := big_take_lt l k
      have hx : at_ l k = (l[k]?.getD 0).toNat := rfl
      generalize (l[k]?.getD 0).toNat = x at hck hx256 hx
      have hp : 256 ^ (k + 1) ≤ 256 ^ 8 := Nat.pow_le_pow_right (by omega) (by omega)
      rw [Nat.pow_succ] at hp
      rw [hx] at hs
      generalize bigF 0 (l.take k) = a at hs hl
      have ho := shl8_or a x hx256 (by omega)
      have Hs := Lib.hid hs
      have Ho := Lib.hid ho
      clear hcell hb hx hs hl hp ho
      have hlt1 : k < l.length := by omega
      have hlt2 : k < 8 := by omega
      go_wp2_with fail
      go_round
      case rel => exact ⟨k + 1, by omega, by go_num, by rw [Ho.out, Hs.out]⟩
      case measure => simp [intOf]; omega
    · have T := Lib.hid (big_of l k (by omega))
      clear hb
      go_wp2_with fail
      all_goals (go_ret; rw [T.out]; exact ⟨rfl, rfl⟩)

def FixRel (w : World) (v m : Nat) (A : Value) (x13 : Value) (wr : World) : Prop :=
  ∃ k : Nat, k ≤ m ∧ x13 = .int .i64 (k : Int) ∧ wr.ownsRow w.heap.size 5 1 A m (bv (List.replicate (m - k) 0 ++ fixF v k)) ∧ Below w.heap.size w wr
theorem shr_byte (v k : Nat) : (v : Int) / 2 ^ (8 * k) % 256 = ((v / 256 ^ k % 256 : Nat) : Int) := by
  rw [← pow8]; simp [Int.natCast_ediv, Int.natCast_emod, Int.natCast_pow]
theorem fix_set (v m k : Nat) (h : k < m) : (bv (List.replicate (m - k) 0 ++ fixF v k)).set (m - 1 - k) (.int .u8 ((v / 256 ^ k % 256 : Nat) : Int)) = bv (List.replicate (m - (k + 1)) 0 ++ fixF v (k + 1)) := by
  have e : List.replicate (m - k) (0 : UInt8) = List.replicate (m - (k + 1)) 0 ++ [0] := by
    rw [show m - k = (m - (k + 1)) + 1 by omega, List.replicate_succ']
  rw [e]
  simp only [bv, List.map_append, fixF, List.map_cons, List.append_assoc, List.singleton_append]
  rw [List.set_append_right _ _ (by simp; omega)]
  have e2 : m - 1 - k - (List.map u8v (List.replicate (m - (k + 1)) 0)).length = 0 := by simp; omega
  rw [e2]
  simp only [List.set_cons_zero]
  first | done | (congr 2; simp only [u8v, ofNat_mod]) | simp only [u8v, ofNat_mod]
theorem fix_cell (v m k : Nat) (h : k < m) : (bv (List.replicate (m - k) 0 ++ fixF v k))[m - 1 - k]? = some (.int .u8 0) := by
  simp only [bv, List.map_append, List.map_replicate]
  rw [List.getElem?_append_left (by simp; omega), List.getElem?_replicate, if_pos (by omega)]
  rfl

set_option maxRecDepth 100000 in
set_option maxHeartbeats 800000 in
theorem Fixed_any (w : World) (v : Nat) (n : Int) (hn : -9223372036854775808 ≤ n ∧ n ≤ 9223372036854775807) :
    Calls Try.prog 35 #[.int .u64 (v : Int), .int .i64 n] w (Fresh w (fixF v (min (max n 0) 8).toNat)) := by
  have hm : (n < 0 ∧ (min (max n 0) 8).toNat = 0) ∨ (0 ≤ n ∧ n ≤ 8 ∧ (min (max n 0) 8).toNat = n.toNat) ∨ (8 < n ∧ (min (max n 0) 8).toNat = 8) := by omega
  generalize (min (max n 0) 8).toNat = m at hm
  have hm8 : m ≤ 8 := by omega
  rcases hm with ⟨hm1, hm2⟩ | ⟨hm1, hm1', hm2⟩ | ⟨hm1, hm2⟩
  all_goals
    have HM := Lib.hid hm2
    clear hm2 hn
    go_enter Try.func35, Try.ntmps35
    go_wp2_with (at_make; refine mkZ (n := m) rfl rfl rfl rfl ?_ ?_ (by omega) ?_; (all_goals try (have := HM.out; omega)); intro w1 hown1 hg1)
    go_loopw [13] (fun x13 wr => FixRel w v m (.slice (some ⟨w.heap.size, 0, none⟩) m m) x13 wr) (fun x13 _ => m - (intOf x13).toNat)
    case atStart => exact ⟨0, by omega, rfl, (by simp only [OwnB, List.length_replicate] at hown1; simpa [fixF] using hown1), below_of_grown hg1 (by simp) (Nat.le_refl _)⟩
    case round =>
      obtain ⟨k, hk, rfl, hown, hbel⟩ := hrel
      clear hown1 hg1
      have hs := hbel.size
      by_cases hlt : k < m
      · have hc : wr.cell? ⟨w.heap.size, m - 1 - k, none⟩ = some (.int .u8 0) := (hown.cellAt (m - 1 - k) (by omega)).trans (fix_cell v m k hlt)
        have hf := hown.frozenAt (m - 1 - k)
        have hst := hown.stored (m - 1 - k) (.int .u8 ((v / 256 ^ k % 256 : Nat) : Int))
        rw [fix_set v m k hlt] at hst
        have Hst := Lib.hid hst
        clear hst
        go_wp2_with fail
        go_roundw
        case rel =>
          rw [shr_byte]
          exact ⟨k + 1, hlt, by go_num, Hst.out.1, hbel.setCell (Nat.le_refl _) _⟩
        case measure => simp [intOf]; omega
      · obtain rfl : k = m := by omega
        rw [Nat.sub_self, List.replicate_zero, List.nil_append] at hown
        go_wp2_with fail
        go_ret
        exact ⟨some ⟨w.heap.size, 0, none⟩, k, (by rw [fixF_len]; rfl), by rw [OwnB, fixF_len]; exact hown, hbel⟩

def RFixRel (w : World) (v m : Nat) (x5 x6 : Value) (wr : World) : Prop :=
  ∃ j : Nat, j ≤ m ∧ x6 = .int .i64 ((j : Int) - 1) ∧ OwnB wr w.heap.size x5 ((fixF v m).take (m - j)) ∧ Below w.heap.size w wr
theorem shr_bv (v k : Nat) : [Value.int .u8 ((v : Int) / 2 ^ (8 * k) % 256)] = bv [UInt8.ofNat (v / 256 ^ k)] := by
  rw [shr_byte]
  simp only [bv, List.map, u8v, ofNat_mod]

set_option maxRecDepth 100000 in
set_option maxHeartbeats 800000 in
theorem RefFixed_any (w : World) (v : Nat) (n : Int) (hn : -9223372036854775808 ≤ n ∧ n ≤ 9223372036854775807) :
    Calls Try.prog 36 #[.int .u64 (v : Int), .int .i64 n] w (Fresh w (fixF v (min (max n 0) 8).toNat)) := by
  have hm : (n < 0 ∧ (min (max n 0) 8).toNat = 0) ∨ (0 ≤ n ∧ n ≤ 8 ∧ (min (max n 0) 8).toNat = n.toNat) ∨ (8 < n ∧ (min (max n 0) 8).toNat = 8) := by omega
  generalize (min (max n 0) 8).toNat = m at hm
  have hm8 : m ≤ 8 := by omega
  rcases hm with ⟨hm1, hm2⟩ | ⟨hm1, hm1', hm2⟩ | ⟨hm1, hm2⟩
  all_goals
    have HM := Lib.hid hm2
    clear hm2 hn
    go_enter Try.func36, Try.ntmps36
    go_wp2_with fail
    go_loopw [5, 6] (fun x5 x6 wr => RFixRel w v m x5 x6 wr) (fun _ x6 _ => (intOf x6 + 1).toNat)
    case atStart => exact ⟨m, Nat.le_refl _, (by have := HM.out; refine congrArg _ ?_; omega), by rw [Nat.sub_self, List.take_zero]; exact OwnB.nil _ _, Below.refl _ _⟩
    case round =>
      obtain ⟨j, hj, rfl, hown, hbel⟩ := hrel
      have hs := hbel.size
      by_cases hlt : 1 ≤ j
      · obtain ⟨j, rfl⟩ : ∃ i, j = i + 1 := ⟨j - 1, by omega⟩
        rw [show (((j + 1 : Nat) : Int) - 1) = (j : Int) by omega]
        have hst := fixF_take v m j (by omega)
        have hlen : ((fixF v m).take (m - (j + 1))).length + 1 ≤ 140737488355328 := by rw [List.length_take, fixF_len]; omega
        have Hst := Lib.hid hst
        clear hst
        go_wp2_with (at_builtin; refine appN rfl rfl hown (shr_bv v j) rfl rfl rfl hlen hs ?_; intro s1 w1 hown1 hg1 hat1)
        go_roundw
        case rel => exact ⟨j, by omega, rfl, by rw [Hst.out]; exact hown1, own_below hbel hs hown hg1⟩
        case measure => simp [intOf]
      · obtain rfl : j = 0 := by omega
        rw [Nat.sub_zero, List.take_of_length_le (by rw [fixF_len]; omega)] at hown
        obtain ⟨A2, c2, rfl, _⟩ := hown.form
        go_wp2_with fail
        go_ret
        exact ⟨A2, c2, rfl, hown, hbel⟩
theorem Fixed_lit (w : World) (v : Nat) (n : Int) (k : List UInt8) (hn : 0 ≤ n ∧ n ≤ 8) (h : fixF v n.toNat = k) : Calls Try.prog 35 #[.int .u64 (v : Int), .int .i64 n] w (Fresh w k) := by
  have := Fixed_any w v n (by omega)
  rw [show (min (max n 0) 8).toNat = n.toNat by omega, h] at this
  exact this

theorem RefFixed_lit (w : World) (v : Nat) (n : Int) (k : List UInt8) (hn : 0 ≤ n ∧ n ≤ 8) (h : fixF v n.toNat = k) : Calls Try.prog 36 #[.int .u64 (v : Int), .int .i64 n] w (Fresh w k) := by
  have := RefFixed_any w v n (by omega)
  rw [show (min (max n 0) 8).toNat = n.toNat by omega, h] at this
  exact this

theorem Big_lit (w : World) (B : Nat) (A : Option Addr) (n c : Nat) (l : List UInt8) (v : Nat) (hb : Sl w B A (bv l)) (h0 : n = l.length) (hc : n ≤ c) (hn : c ≤ maxLen) (h : big l = v) :
    Calls Try.prog 37 #[.slice A n c] w fun e w' => e = .returned (.int .u64 (v : Int)) ∧ w = w' := by
  subst h0
  have := Big_any w B A c l hb hc hn
  rw [h] at this
  exact this
theorem RefBig_lit (w : World) (B : Nat) (A : Option Addr) (n c : Nat) (l : List UInt8) (v : Nat) (hb : Sl w B A (bv l)) (h0 : n = l.length) (hc : n ≤ c) (hn : c ≤ maxLen) (h : big l = v) :
    Calls Try.prog 38 #[.slice A n c] w fun e w' => e = .returned (.int .u64 (v : Int)) ∧ w = w' := by
  subst h0
  have := RefBig_any w B A c l hb hc hn
  rw [h] at this
  exact this
end Go.Proofs.Ythpooogjlmaemaa

