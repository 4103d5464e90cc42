/- Checksums: the walks of More, and of the document's More. -/
import Derived.Test.YtkgmbpbbgkjidaaMem
import Derived.Test.YtkgmbpbbgkjidaaPCrc
import Derived.Laws.BitsAllLaws
import Derived.Outline
namespace Go.Proofs.Ytkgmbpbbgkjidaa
open Go.RowKit Go.Proofs.Ytkgmbpbbgkjidaa.Pc

def crcV (s : BitVec 32) : Value := .int .u32 (s.toNat : Int)
def U32 (n : Nat) : Prop := n < 4294967296
theorem bv_lt (s : BitVec 32) : s.toNat < 4294967296 := s.isLt
theorem xor_bv (a b : BitVec 32) : bits .xor .u32 (a.toNat : Int) (b.toNat : Int) = ((a ^^^ b).toNat : Int) := by
  rw [u32_xor_nat _ _ (bv_lt a) (bv_lt b), BitVec.toNat_xor]
theorem b8_toNat (c : UInt8) : (b8 c).toNat = c.toNat := by
  have := c.toNat_lt
  simp only [b8, BitVec.toNat_ofNat]
  omega
theorem xor_b8 (a : BitVec 32) (c : UInt8) : bits .xor .u32 (a.toNat : Int) (c.toNat : Int) = ((a ^^^ b8 c).toNat : Int) := by
  rw [← b8_toNat c]; exact xor_bv a (b8 c)
theorem tab_lt : ∀ k : Fin 16, tabN.getD k.val 0 < 4294967296 := by decide
theorem nib_val (s : BitVec 32) : ∃ k, k < 16 ∧ bits .and .u32 (s.toNat : Int) 15 = ((k : Nat) : Int) ∧ bits .xor .u32 ((s.toNat : Int) / 16) ((tabN.getD k 0 : Nat) : Int) = ((nib s).toNat : Int) := by
  have hk : (s &&& 15#32).toNat < 16 := by
    rw [BitVec.toNat_and]
    exact Nat.and_lt_two_pow _ (show (15#32).toNat < 2 ^ 4 by decide)
  refine ⟨(s &&& 15#32).toNat, hk, ?_, ?_⟩
  · have := u32_and_nat s.toNat 15 (bv_lt s) (by omega)
    rw [BitVec.toNat_and]
    exact this
  · have e1 : ((s.toNat : Int) / (16 : Int)) = ((s >>> 4).toNat : Int) := by
      rw [BitVec.toNat_ushiftRight, Nat.shiftRight_eq_div_pow]; omega
    have ht := tab_lt ⟨_, hk⟩
    have e2 : ((tabN.getD (s &&& 15#32).toNat 0 : Nat) : Int) = ((BitVec.ofNat 32 (tabN.getD (s &&& 15#32).toNat 0)).toNat : Int) := by
      rw [BitVec.toNat_ofNat, Nat.mod_eq_of_lt ht]
    have e3 := xor_bv (s >>> 4) (BitVec.ofNat 32 (tabN.getD (s &&& 15#32).toNat 0))
    rw [← e1, ← e2] at e3
    exact e3
def CrcRel (s : BitVec 32) (l : List UInt8) (x0 x13 : Value) : Prop := ∃ k : Nat, k ≤ l.length ∧ x13 = .int .i64 (k : Int) ∧ x0 = .int .u32 ((go s (l.take k)).toNat : Int)
theorem go_take_succ (s : BitVec 32) (l : List UInt8) (k : Nat) (h : k < l.length) : go s (l.take (k + 1)) = Pc.step (go s (l.take k)) (l[k]?.getD 0) := by
  rw [List.take_add_one, List.getElem?_eq_getElem h]
  simp only [Option.toList_some, go_append]
  rfl

theorem not_val (s : BitVec 32) : bits .xor .u32 IntKind.u32.max (s.toNat : Int) = ((~~~ s).toNat : Int) := by
  have hm : IntKind.u32.max = ((4294967295#32).toNat : Int) := by decide
  rw [hm, xor_bv]
  have : 4294967295#32 = BitVec.allOnes 32 := by decide
  rw [this, BitVec.allOnes_xor]

/-- The block of the table. -/
def tabC : Array Value := #[.int .u32 0, .int .u32 498536548, .int .u32 997073096, .int .u32 651767980, .int .u32 1994146192, .int .u32 1802195444, .int .u32 1303535960, .int .u32 1342533948,
  .int .u32 3988292384, .int .u32 4027552580, .int .u32 3604390888, .int .u32 3412177804, .int .u32 2607071920, .int .u32 2262029012, .int .u32 2685067896, .int .u32 3183342108]
theorem tabC_get : ∀ k : Fin 16, tabC[k.val]? = some (.int .u32 ((tabN.getD k.val 0 : Nat) : Int)) := by
  intro ⟨k, hk⟩
  rcases k with _ | _ | _ | _ | _ | _ | _ | _ | _ | _ | _ | _ | _ | _ | _ | _ | k
  all_goals first | rfl | omega
theorem tab_cell (w : World) (t : TypeId) (k : Nat) (hk : k < 16) : (w.alloc (.cells tabC t)).cell? ⟨w.heap.size, k, none⟩ = some (.int .u32 ((tabN.getD k 0 : Nat) : Int)) := by
  simp only [World.cell?, World.alloc]
  rw [Array.getElem?_push_size]
  exact tabC_get ⟨k, hk⟩

set_option maxRecDepth 100000 in
set_option maxHeartbeats 1600000 in
theorem More_any (w : World) (s : BitVec 32) (B : Nat) (A : Option Addr) (c : Nat) (l : List UInt8) (hb : Sl w B A (bv l)) (hc : l.length ≤ c) (hn : c ≤ maxLen) :
    Calls Try.prog 62 #[.int .u32 (s.toNat : Int), .slice A l.length c] w fun e w' => e = .returned (.int .u32 ((more s l).toNat : Int)) ∧ Below w.heap.size w w' := by
  unfold maxLen at hn
  have hnot := not_val s
  have hmore : more s l = ~~~ go (~~~ s) l := rfl
  obtain ⟨s', hs'⟩ : ∃ s', ~~~ s = s' := ⟨_, rfl⟩
  rw [hs'] at hnot hmore
  have Hmore := Lib.hid hmore
  clear hmore hs'
  go_enter Try.func62, Try.ntmps62
  go_wp2_with fail
  have htab := tab_cell w 92
  have hba := hb.alloc (.cells tabC 92)
  have hbel := (Below.refl w.heap.size w).alloc (Nat.le_refl _) (.cells tabC 92)
  unfold tabC at htab hba hbel
  generalize w.alloc (.cells #[.int .u32 0, .int .u32 498536548, .int .u32 997073096, .int .u32 651767980, .int .u32 1994146192, .int .u32 1802195444, .int .u32 1303535960, .int .u32 1342533948,
    .int .u32 3988292384, .int .u32 4027552580, .int .u32 3604390888, .int .u32 3412177804, .int .u32 2607071920, .int .u32 2262029012, .int .u32 2685067896, .int .u32 3183342108] 92) = w1 at *
  have Htab := Lib.hid htab
  clear htab hnot hb
  go_loop [0, 13] (fun x0 x13 => CrcRel s' l x0 x13) (fun _ x13 => l.length - (intOf x13).toNat)
  case atStart => exact ⟨0, Nat.zero_le _, rfl, rfl⟩
  case round =>
    obtain ⟨k, hk, rfl, rfl⟩ := hrel
    by_cases hlt : k < l.length
    · obtain ⟨b, o, rfl, hbB, hbW, hcell⟩ := hba.at_ (k := k) (by simpa using hlt)
      have hck := hcell k _ (bv_get l k hlt)
      have hts := go_take_succ s' l k hlt
      rw [step_nib] at hts
      generalize l[k]?.getD 0 = x at hck hts
      generalize go s' (l.take k) = s0 at hts
      have f1 := xor_b8 s0 x
      generalize s0 ^^^ b8 x = s1 at hts f1
      obtain ⟨k1, hk1, g1, g2⟩ := nib_val s1
      have c1 := Htab.out k1 hk1
      generalize nib s1 = s2 at hts g2
      obtain ⟨k2, hk2, g3, g4⟩ := nib_val s2
      have c2 := Htab.out k2 hk2
      generalize nib s2 = s3 at hts g4
      have hx256 := x.toNat_lt
      generalize x.toNat = xn at hck f1 hx256
      generalize tabN.getD k1 0 = t1 at c1 g2
      generalize tabN.getD k2 0 = t2 at c2 g4
      have l0 := bv_lt s0
      have l1 := bv_lt s1
      have l2 := bv_lt s2
      generalize s0.toNat = n0 at *
      generalize s1.toNat = n1 at *
      generalize s2.toNat = n2 at *
      have Hts := Lib.hid hts
      clear hts hcell hba
      go_wp2_with fail
      go_round
      case rel => exact ⟨k + 1, hlt, by go_num, by rw [Hts.out]⟩
      case measure => simp [intOf]; omega
    · rw [List.take_of_length_le (by omega)]
      have hnot := not_val (go s' l)
      rw [← Hmore.out] at hnot
      generalize (go s' l).toNat = n0 at hnot
      go_wp2_with fail
      go_ret
      exact ⟨rfl, hbel⟩
end Go.Proofs.Ytkgmbpbbgkjidaa

