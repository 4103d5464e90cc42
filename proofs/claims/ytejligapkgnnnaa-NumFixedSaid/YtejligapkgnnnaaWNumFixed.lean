/- 'NumFixed': the walk of the law. -/
import Derived.Test.YtejligapkgnnnaaNumLaw
import Derived.Test.YtejligapkgnnnaaNumFix
import Derived.Test.YtejligapkgnnnaaFrame
import Derived.Test.YtejligapkgnnnaaPar
import Derived.Laws.BitsAllLaws
namespace Go.Proofs.Ytejligapkgnnnaa
open Go.RowKit Go.Proofs.Ytejligapkgnnnaa.Pl

theorem cell4 (w : World) (t : TypeId) (a b c d : Value) : (w.alloc (.cells #[a, b, c, d] t)).cell? ⟨w.heap.size, 0, none⟩ = some a ∧ (w.alloc (.cells #[a, b, c, d] t)).cell? ⟨w.heap.size, 1, none⟩ = some b ∧ (w.alloc (.cells #[a, b, c, d] t)).cell? ⟨w.heap.size, 2, none⟩ = some c ∧ (w.alloc (.cells #[a, b, c, d] t)).cell? ⟨w.heap.size, 3, none⟩ = some d := by
  obtain ⟨b', o, e, _, _, h⟩ := (Sl.new w t #[a, b, c, d] (0, 0)).at_ (k := 0) (by simp)
  cases e
  exact ⟨h 0 a rfl, h 1 b rfl, h 2 c rfl, h 3 d rfl⟩
theorem and_low (v m : Nat) (hv : U64 v) (hm : m < 8) : bits .and .u64 (v : Int) ((256 ^ m - 1 : Nat) : Int) = ((v % 256 ^ m : Nat) : Int) := by
  have h1 : (256 : Nat) ^ m = 2 ^ (8 * m) := by rw [Nat.pow_mul]
  have h2 : (256 : Nat) ^ m ≤ 256 ^ 7 := Nat.pow_le_pow_right (by omega) (by omega)
  rw [u64_and_nat _ _ hv (by omega), h1, Nat.and_two_pow_sub_one_eq_mod]
theorem pow_low (m : Nat) (hm : m < 8) : IntKind.u64.wrap (2 ^ (8 * m)) = ((256 ^ m : Nat) : Int) := by
  rcases (by omega : m = 0 ∨ m = 1 ∨ m = 2 ∨ m = 3 ∨ m = 4 ∨ m = 5 ∨ m = 6 ∨ m = 7) with rfl | rfl | rfl | rfl | rfl | rfl | rfl | rfl
  all_goals rfl
set_option maxRecDepth 100000 in
set_option maxHeartbeats 3200000 in
theorem NumFixed_walk (w : World) (v : Nat) (hv : U64 v) (n : Int) (hn : -9223372036854775808 ≤ n ∧ n ≤ 9223372036854775807) (A : Option Addr) (c : Nat) (l : List UInt8) (hb : Sl w w.heap.size A (bv l)) (hc : l.length ≤ c) (hm : c ≤ 140737488351232) :
    Calls Try.prog 9 #[.int .u64 (v : Int), .int .i64 n, .slice A l.length c] w fun e w' => e = .returned (.bool true) ∧ Below w.heap.size w w' := by
  obtain ⟨K2, hK2, hK2b⟩ : ∃ K2 : Int, bits .and .i64 n 7 = K2 ∧ -9223372036854775808 ≤ K2 ∧ K2 ≤ 9223372036854775807 := ⟨_, rfl, bits_within .and .i64 n 7⟩
  have hmc : c ≤ maxLen := by simp only [maxLen]; omega
  obtain ⟨m, hml, hmr⟩ : ∃ m : Nat, m = min l.length 8 ∧ ∀ W, (Builtin.min_ #[3, 3] 3 #[.int .i64 (l.length : Int), .int .i64 8]).run Try.prog W = .ok (.int .i64 (m : Int)) W := by
    refine ⟨_, rfl, fun W => ?_⟩
    rw [run_min_int2]
    split <;> congr 2 <;> omega
  have hbig : fixF (big l) m = l.take m := by
    have h1 := big_of l m hml
    have h2 := fixF_bigF (l.take m)
    rw [← h1, List.length_take, show min m l.length = m by omega] at h2
    exact h2
  have hbv : U64 (big l) := by
    have h1 := big_of l m hml
    have h2 := big_take_lt l m
    have h3 : (256 : Nat) ^ m ≤ 256 ^ 8 := Nat.pow_le_pow_right (by omega) (by omega)
    unfold U64; omega
  have hkn : K2 = K2 := rfl
  clear hkn
  go_enter Try.func9, Try.ntmps9
  go_wp2_with fail
  refine (known_any w).mono ?_
  rintro e w1 ⟨rfl, hb1⟩
  have hbl := (hb.below hb1).more hb1.size
  go_wp2_with fail
  obtain ⟨c0, c1, c2, c3⟩ := cell4 w1 3 (.int .i64 n) (.int .i64 K2) (.int .i64 8) (.int .i64 0)
  have hbw := balloc (Below.refl w1.heap.size w1) (.cells #[.int .i64 n, .int .i64 K2, .int .i64 8, .int .i64 0] 3)
  have hsz : w1.heap.size < (w1.alloc (.cells #[.int .i64 n, .int .i64 K2, .int .i64 8, .int .i64 0] 3)).heap.size := by simp
  generalize w1.alloc (.cells #[.int .i64 n, .int .i64 K2, .int .i64 8, .int .i64 0] 3) = w2 at *
  have hbw2 := bstep hb1 hbw
  have hbl2 := (hbl.below hbw).more hbw.size
  generalize w1.heap.size = g at *
  go_loopw [20] (fun x20 wr => ∃ k : Nat, k ≤ 4 ∧ x20 = .int .i64 (k : Int) ∧ Below w2.heap.size w2 wr) (fun x20 _ => 4 - (intOf x20).toNat)
  case atStart => exact ⟨0, by omega, rfl, Below.refl _ _⟩
  case round =>
    obtain ⟨k, hk, rfl, hbel⟩ := hrel
    by_cases hlt : k < 4
    · obtain ⟨K, hcK, hKb⟩ : ∃ K : Int, wr.cell? ⟨g, k, none⟩ = some (.int .i64 K) ∧ -9223372036854775808 ≤ K ∧ K ≤ 9223372036854775807 := by
        have h0 := fun o => hbel.cell (p := ⟨g, o, none⟩) hsz
        rcases (by omega : k = 0 ∨ k = 1 ∨ k = 2 ∨ k = 3) with rfl | rfl | rfl | rfl
        · exact ⟨n, (h0 0).trans c0, hn⟩
        · exact ⟨K2, (h0 1).trans c1, hK2b⟩
        · exact ⟨8, (h0 2).trans c2, by omega⟩
        · exact ⟨0, (h0 3).trans c3, by omega⟩
      obtain ⟨M, hM⟩ : ∃ M : Int, (if (0 : Int) > K then (0 : Int) else K) = M := ⟨_, rfl⟩
      obtain ⟨j, hj⟩ : ∃ j : Nat, (min (max K 0) 8).toNat = j := ⟨_, rfl⟩
      have hmx : ∀ W, (Builtin.max_ #[3, 3] 3 #[.int .i64 K, .int .i64 0]).run Try.prog W = .ok (.int .i64 M) W := fun W => by rw [run_max_int2, hM]
      have hmn : ∀ W, (Builtin.min_ #[3, 3] 3 #[.int .i64 M, .int .i64 8]).run Try.prog W = .ok (.int .i64 (j : Int)) W := fun W => by
        rw [run_min_int2]
        rw [← hM]
        congr 2
        split <;> split at * <;> omega
      have hf := Fixed_any wr v K hKb
      have hrf : ∀ W, Calls Try.prog 23 #[.int .u64 (v : Int), .int .i64 K] W (Fresh W (fixF v j)) := fun W => by have := RefFixed_any W v K hKb; rw [hj] at this; exact this
      have hlen := fixF_len v j
      have hbF : big (fixF v j) = v % 256 ^ j := by
        rw [big_of (fixF v j) j (by rw [hlen]; omega), List.take_of_length_le (by rw [hlen]; omega), bigF_fixF]; simp
      rw [hj] at hf
      have hj8 : j ≤ 8 := by omega
      have hpw := fun h => pow_low j h
      have hand := fun h => and_low v j hv h
      have hv8 : j = 8 → v % 256 ^ j = v := by
        rintro rfl
        exact Nat.mod_eq_of_lt hv
      have hP1 : 1 ≤ 256 ^ j := Nat.pos_of_ne_zero (by simp)
      have hP2 : 256 ^ j ≤ 256 ^ 8 := Nat.pow_le_pow_right (by omega) hj8
      rw [← hbF] at hand hv8
      have HRF := Lib.hid hrf
      clear hrf hM hbF
      generalize fixF v j = F at *
      generalize 256 ^ j = P at *
      have hbw0 := bstep hbw2 hbel
      subst hlen
      clear hj hml hbig hbv hmr c0 c1 c2 c3 hK2 hK2b hn hKb hbl2 hbl
      go_wp2_with fail
      refine hf.mono ?_
      clear hf
      rintro e w3 ⟨A3, c3, rfl, hown3, hb3⟩
      obtain ⟨hs3, hc3, hm3⟩ := Fresh.sl hown3
      have hbel3 := bstep hbel hb3
      go_wp2_with fail
      have hcv3 := convB hs3 F.length c3 rfl
      have hlen3 := fun W => run_len_slice (P := Try.prog) (w := W) 35 3 A3 F.length c3 Try.underlying35
      refine bstart (by kernel_rfl) ?_
      refine btake 0 (oi := _) (v := ?_) (by simp only [List.getElem?_toArray, List.getElem?_cons_succ, List.getElem?_cons_zero]; rfl) (by kernel_rfl) (by exact fun _ _ _ h => h) (by first | assumption | exact KB.refl _) (.inl ⟨by rfl, fun W hW => ?_⟩) ?_; rotate_left
      · (go_simp; first | done | with_reducible rfl)
      try simp only [Act.put, List.setIfInBounds_toArray, List.set_cons_zero, List.set_cons_succ]
      refine btake 1 (oi := _) (v := ?_) (by simp only [List.getElem?_toArray, List.getElem?_cons_succ, List.getElem?_cons_zero]; rfl) (by kernel_rfl) (by exact fun _ _ _ h => h) (by first | assumption | exact KB.refl _) (.inl ⟨by rfl, fun W hW => ?_⟩) ?_; rotate_left
      · (go_simp; first | done | with_reducible rfl)
      try simp only [Act.put, List.setIfInBounds_toArray, List.set_cons_zero, List.set_cons_succ]
      refine btake 2 (oi := _) (v := ?_) (by simp only [List.getElem?_toArray, List.getElem?_cons_succ, List.getElem?_cons_zero]; rfl) (by kernel_rfl) (by exact fun _ _ _ h => h) (by first | assumption | exact KB.refl _) (.inl ⟨by rfl, fun W hW => ?_⟩) ?_; rotate_left
      · (go_simp; first | done | with_reducible rfl)
      try simp only [Act.put, List.setIfInBounds_toArray, List.set_cons_zero, List.set_cons_succ]
      refine btake 3 (oi := _) (v := ?_) (by simp only [List.getElem?_toArray, List.getElem?_cons_succ, List.getElem?_cons_zero]; rfl) (by kernel_rfl) (by exact fun _ _ _ h => h) (by first | assumption | exact KB.refl _) (.inl ⟨by rfl, fun W hW => ?_⟩) ?_; rotate_left
      · (go_simp; first | done | with_reducible rfl)
      try simp only [Act.put, List.setIfInBounds_toArray, List.set_cons_zero, List.set_cons_succ]
      -- 4: newsreel/newsreelref1.Fixed
      refine bop 4 (o := _) (by simp only [List.getElem?_toArray, List.getElem?_cons_succ, List.getElem?_cons_zero]; rfl) (by kernel_rfl) (by first | assumption | exact KB.refl _) (by rfl) (fun K hK => ?_)
      go_simp
      refine (HRF.out _).mono ?_
      rintro e w4 ⟨A4, c4, rfl, hown4, hb4⟩
      obtain ⟨hs4, hc4, hm4⟩ := Fresh.sl hown4
      have hcv4 := convB hs4 F.length c4 rfl
      have hcv3 := convB (hs3.below' (Below.refl w3.heap.size w3 |>.drew.trans hb4)) F.length c3 rfl
      have hkb := KB.of hb4
      refine hK.out _ _ hkb ?_; clear hK K
      try simp only [Act.put, List.setIfInBounds_toArray, List.set_cons_zero, List.set_cons_succ]
      refine btake 5 (oi := _) (v := ?_) (by simp only [List.getElem?_toArray, List.getElem?_cons_succ, List.getElem?_cons_zero]; rfl) (by kernel_rfl) (by exact fun _ _ _ h => h) (by first | assumption | exact KB.refl _) (.inl ⟨by rfl, fun W hW => ?_⟩) ?_; rotate_left
      · (go_simp; first | done | with_reducible rfl)
      try simp only [Act.put, List.setIfInBounds_toArray, List.set_cons_zero, List.set_cons_succ]
      refine btake 6 (oi := _) (v := ?_) (by simp only [List.getElem?_toArray, List.getElem?_cons_succ, List.getElem?_cons_zero]; rfl) (by kernel_rfl) (by exact fun _ _ _ h => h) (by first | assumption | exact KB.refl _) (.inl ⟨by rfl, fun W hW => ?_⟩) ?_; rotate_left
      · (go_simp; first | done | with_reducible rfl)
      try simp only [Act.put, List.setIfInBounds_toArray, List.set_cons_zero, List.set_cons_succ]
      refine btake 7 (oi := _) (v := ?_) (by simp only [List.getElem?_toArray, List.getElem?_cons_succ, List.getElem?_cons_zero]; rfl) (by kernel_rfl) (by exact fun _ _ _ h => h) (by first | assumption | exact KB.refl _) (.inl ⟨by rfl, fun W hW => ?_⟩) ?_; rotate_left
      · (go_simp; first | done | with_reducible rfl)
      try simp only [Act.put, List.setIfInBounds_toArray, List.set_cons_zero, List.set_cons_succ]
      refine btake 8 (oi := _) (v := ?_) (by simp only [List.getElem?_toArray, List.getElem?_cons_succ, List.getElem?_cons_zero]; rfl) (by kernel_rfl) (by exact fun _ _ _ h => h) (by first | assumption | exact KB.refl _) (.inl ⟨by rfl, fun W hW => ?_⟩) ?_; rotate_left
      · (go_simp; first | done | with_reducible rfl)
      try simp only [Act.put, List.setIfInBounds_toArray, List.set_cons_zero, List.set_cons_succ]
      refine btake 9 (oi := _) (v := ?_) (by simp only [List.getElem?_toArray, List.getElem?_cons_succ, List.getElem?_cons_zero]; rfl) (by kernel_rfl) (by exact fun _ _ _ h => h) (by first | assumption | exact KB.refl _) (.inl ⟨by rfl, fun W hW => ?_⟩) ?_; rotate_left
      · (go_simp; first | done | with_reducible rfl)
      try simp only [Act.put, List.setIfInBounds_toArray, List.set_cons_zero, List.set_cons_succ]
      refine btake 10 (oi := _) (v := ?_) (by simp only [List.getElem?_toArray, List.getElem?_cons_succ, List.getElem?_cons_zero]; rfl) (by kernel_rfl) (by exact fun _ _ _ h => h) (by first | assumption | exact KB.refl _) (.inl ⟨by rfl, fun W hW => ?_⟩) ?_; rotate_left
      · (go_simp; first | done | with_reducible rfl)
      try simp only [Act.put, List.setIfInBounds_toArray, List.set_cons_zero, List.set_cons_succ]
      refine btake 11 (oi := _) (v := ?_) (by simp only [List.getElem?_toArray, List.getElem?_cons_succ, List.getElem?_cons_zero]; rfl) (by kernel_rfl) (by exact fun _ _ _ h => h) (by first | assumption | exact KB.refl _) (.inl ⟨by rfl, fun W hW => ?_⟩) ?_; rotate_left
      · (go_simp; first | done | with_reducible rfl)
      try simp only [Act.put, List.setIfInBounds_toArray, List.set_cons_zero, List.set_cons_succ]
      refine btake 12 (oi := _) (v := ?_) (by simp only [List.getElem?_toArray, List.getElem?_cons_succ, List.getElem?_cons_zero]; rfl) (by kernel_rfl) (by exact fun _ _ _ h => h) (by first | assumption | exact KB.refl _) (.inl ⟨by rfl, fun W hW => ?_⟩) ?_; rotate_left
      · (go_simp; first | done | with_reducible rfl)
      try simp only [Act.put, List.setIfInBounds_toArray, List.set_cons_zero, List.set_cons_succ]
      refine bdone (by kernel_rfl) ?_
      have hbel4 := bstep hbel3 ((Below.refl w3.heap.size w3).drew.trans hb4)
      have hs34 := hs3.below' ((Below.refl w3.heap.size w3).drew.trans hb4)
      go_wp2_with fail
      refine (Big_any _ _ A3 c3 F hs34 hc3 hm3).mono ?_
      rintro e w5 ⟨rfl, rfl⟩
      by_cases h8 : F.length = 8
      · have hv' := hv8 h8
        have hq : ((F.length : Int) == 8) = true := by simp; omega
        have hq' : ((big F : Int) != (v : Int)) = false := by simp; omega
        clear hv8 hpw hand h8 hv'
        go_wp2_with fail
        go_roundw
        case rel => exact ⟨k + 1, hlt, by go_num, hbel4⟩
        case measure => simp [intOf]; omega
      · have hq : ((F.length : Int) == 8) = false := by simp; omega
        have hpw' := hpw (by omega)
        have hand' := hand (by omega)
        have hlt8 : (F.length : Int) < 8 := by omega
        have hP1' : (P : Int) - 1 = ((P - 1 : Nat) : Int) := by omega
        have hwP : IntKind.u64.wrap ((P - 1 : Nat) : Int) = ((P - 1 : Nat) : Int) := by rw [IntKind.wrap_u64]; omega
        have hne : ((big F : Int) != (big F : Int)) = false := by simp
        clear hv8 hpw hand h8
        go_wp2_with fail
        go_roundw
        case rel => exact ⟨k + 1, hlt, by go_num, hbel4⟩
        case measure => simp [intOf]; omega
    · have hblr := (hbl2.below hbel).more hbel.size
      have hbwr := bstep hbw2 hbel
      have i1 : (m : Int) ≤ (c : Int) := by omega
      have i2 : (m : Int) ≤ (l.length : Int) := by omega
      have i3 : (0 : Int) ≤ (m : Int) := by omega
      have hf : ∀ W, Calls Try.prog 22 #[.int .u64 (big l : Int), .int .i64 (m : Int)] W (Fresh W (l.take m)) := fun W => Fixed_lit W (big l) m (l.take m) (by omega) (by simpa using hbig)
      have hcT := fun W hW => convB (l := l.take m) (w := wr) (by have := hblr.tk m; rw [bv_take] at this; exact this) m c (by rw [List.length_take]; omega) W hW
      have hB := fun W (hW : KB wr.heap W) => Big_any W _ A c l (hblr.kb hW) hc hmc
      have hRB := fun W (hW : KB wr.heap W) => RefBig_any W _ A c l (hblr.kb hW) hc hmc
      have HB := Lib.hid (And.intro hB (And.intro hRB hf))
      clear hB hRB hf hbig hml hbl2 hbl hK2 c0 c1 c2 c3
      have htl : (l.take m).length = m := by rw [List.length_take]; omega
      have hts : ∀ (A4 : Option Addr) (c4 : Nat) W, Sl W W.heap.size A4 (bv (l.take m)) → ∀ W', KB W.heap W' → (convert 35 9 (.slice A4 (l.take m).length c4)).run Try.prog W' = .ok (.string ⟨(l.take m).toArray⟩) W' := fun A4 c4 W h => convB h _ c4 rfl
      generalize l.take m = T at *
      have HTL := Lib.hid htl
      have HTS := Lib.hid hts
      clear htl hts
      go_wp2_with fail
      refine bstart (by kernel_rfl) ?_
      refine btake 0 (oi := _) (v := ?_) (by simp only [List.getElem?_toArray, List.getElem?_cons_succ, List.getElem?_cons_zero]; rfl) (by kernel_rfl) (by exact fun _ _ _ h => h) (by first | assumption | exact KB.refl _) (.inl ⟨by rfl, fun W hW => ?_⟩) ?_; rotate_left
      · (go_simp; first | done | with_reducible rfl)
      try simp only [Act.put, List.setIfInBounds_toArray, List.set_cons_zero, List.set_cons_succ]
      -- 1: newsreel/num.Big
      refine bquiet 1 (oi := _) ?_ (by simp only [List.getElem?_toArray, List.getElem?_cons_succ, List.getElem?_cons_zero]; rfl) (by kernel_rfl) (by exact fun _ _ _ h => h) (by first | assumption | exact KB.refl _) (by rfl) (fun W hW => by go_simp; first | done | exact ⟨rfl, rfl⟩ | rfl) (fun W hW => ?_) ?_; rotate_left
      · exact HB.out.1 W hW
      try simp only [Act.put, List.setIfInBounds_toArray, List.set_cons_zero, List.set_cons_succ]
      refine btake 2 (oi := _) (v := ?_) (by simp only [List.getElem?_toArray, List.getElem?_cons_succ, List.getElem?_cons_zero]; rfl) (by kernel_rfl) (by exact fun _ _ _ h => h) (by first | assumption | exact KB.refl _) (.inl ⟨by rfl, fun W hW => ?_⟩) ?_; rotate_left
      · (go_simp; first | done | with_reducible rfl)
      try simp only [Act.put, List.setIfInBounds_toArray, List.set_cons_zero, List.set_cons_succ]
      -- 3: newsreel/newsreelref1.Big
      refine bquiet 3 (oi := _) ?_ (by simp only [List.getElem?_toArray, List.getElem?_cons_succ, List.getElem?_cons_zero]; rfl) (by kernel_rfl) (by exact fun _ _ _ h => h) (by first | assumption | exact KB.refl _) (by rfl) (fun W hW => by go_simp; first | done | exact ⟨rfl, rfl⟩ | rfl) (fun W hW => ?_) ?_; rotate_left
      · exact HB.out.2.1 W hW
      try simp only [Act.put, List.setIfInBounds_toArray, List.set_cons_zero, List.set_cons_succ]
      refine btake 4 (oi := _) (v := ?_) (by simp only [List.getElem?_toArray, List.getElem?_cons_succ, List.getElem?_cons_zero]; rfl) (by kernel_rfl) (by exact fun _ _ _ h => h) (by first | assumption | exact KB.refl _) (.inl ⟨by rfl, fun W hW => ?_⟩) ?_; rotate_left
      · (go_simp; first | done | with_reducible rfl)
      try simp only [Act.put, List.setIfInBounds_toArray, List.set_cons_zero, List.set_cons_succ]
      refine btake 5 (oi := _) (v := ?_) (by simp only [List.getElem?_toArray, List.getElem?_cons_succ, List.getElem?_cons_zero]; rfl) (by kernel_rfl) (by exact fun _ _ _ h => h) (by first | assumption | exact KB.refl _) (.inl ⟨by rfl, fun W hW => ?_⟩) ?_; rotate_left
      · (go_simp; first | done | with_reducible rfl)
      try simp only [Act.put, List.setIfInBounds_toArray, List.set_cons_zero, List.set_cons_succ]
      refine btake 6 (oi := _) (v := ?_) (by simp only [List.getElem?_toArray, List.getElem?_cons_succ, List.getElem?_cons_zero]; rfl) (by kernel_rfl) (by exact fun _ _ _ h => h) (by first | assumption | exact KB.refl _) (.inl ⟨by rfl, fun W hW => ?_⟩) ?_; rotate_left
      · (go_simp; first | done | with_reducible rfl)
      try simp only [Act.put, List.setIfInBounds_toArray, List.set_cons_zero, List.set_cons_succ]
      -- 7: newsreel/num.Big
      refine bquiet 7 (oi := _) ?_ (by simp only [List.getElem?_toArray, List.getElem?_cons_succ, List.getElem?_cons_zero]; rfl) (by kernel_rfl) (by exact fun _ _ _ h => h) (by first | assumption | exact KB.refl _) (by rfl) (fun W hW => by go_simp; first | done | exact ⟨rfl, rfl⟩ | rfl) (fun W hW => ?_) ?_; rotate_left
      · exact HB.out.1 W hW
      try simp only [Act.put, List.setIfInBounds_toArray, List.set_cons_zero, List.set_cons_succ]
      refine btake 8 (oi := _) (v := ?_) (by simp only [List.getElem?_toArray, List.getElem?_cons_succ, List.getElem?_cons_zero]; rfl) (by kernel_rfl) (by exact fun _ _ _ h => h) (by first | assumption | exact KB.refl _) (.inl ⟨by rfl, fun W hW => ?_⟩) ?_; rotate_left
      · (go_simp; first | done | with_reducible rfl)
      try simp only [Act.put, List.setIfInBounds_toArray, List.set_cons_zero, List.set_cons_succ]
      refine btake 11 (oi := _) (v := ?_) (by simp only [List.getElem?_toArray, List.getElem?_cons_succ, List.getElem?_cons_zero]; rfl) (by kernel_rfl) (by exact fun _ _ _ h => h) (by first | assumption | exact KB.refl _) (.inl ⟨by rfl, fun W hW => ?_⟩) ?_; rotate_left
      · (go_simp; first | done | with_reducible rfl)
      try simp only [Act.put, List.setIfInBounds_toArray, List.set_cons_zero, List.set_cons_succ]
      refine btake 12 (oi := _) (v := ?_) (by simp only [List.getElem?_toArray, List.getElem?_cons_succ, List.getElem?_cons_zero]; rfl) (by kernel_rfl) (by exact fun _ _ _ h => h) (by first | assumption | exact KB.refl _) (.inl ⟨by rfl, fun W hW => ?_⟩) ?_; rotate_left
      · (go_simp; first | done | with_reducible rfl)
      try simp only [Act.put, List.setIfInBounds_toArray, List.set_cons_zero, List.set_cons_succ]
      refine btake 13 (oi := _) (v := ?_) (by simp only [List.getElem?_toArray, List.getElem?_cons_succ, List.getElem?_cons_zero]; rfl) (by kernel_rfl) (by exact fun _ _ _ h => h) (by first | assumption | exact KB.refl _) (.inl ⟨by rfl, fun W hW => ?_⟩) ?_; rotate_left
      · (go_simp; first | done | with_reducible rfl)
      try simp only [Act.put, List.setIfInBounds_toArray, List.set_cons_zero, List.set_cons_succ]
      refine btake 14 (oi := _) (v := ?_) (by simp only [List.getElem?_toArray, List.getElem?_cons_succ, List.getElem?_cons_zero]; rfl) (by kernel_rfl) (by exact fun _ _ _ h => h) (by first | assumption | exact KB.refl _) (.inl ⟨by rfl, fun W hW => ?_⟩) ?_; rotate_left
      · (go_simp; first | done | with_reducible rfl)
      try simp only [Act.put, List.setIfInBounds_toArray, List.set_cons_zero, List.set_cons_succ]
      -- 9: newsreel/num.Fixed
      refine bop 9 (o := _) (by simp only [List.getElem?_toArray, List.getElem?_cons_succ, List.getElem?_cons_zero]; rfl) (by kernel_rfl) (by first | assumption | exact KB.refl _) (by rfl) (fun K hK => ?_)
      go_simp
      refine (HB.out.2.2 _).mono ?_
      rintro e w4 ⟨A4, c4, rfl, hown4, hb4⟩
      obtain ⟨hs4, hc4, hm4⟩ := Fresh.sl hown4
      have hcv4 := HTS.out A4 c4 w4 hs4
      have hcT4 := fun W (hW : KB w4.heap W) => hcT W ((KB.of ((Below.refl wr.heap.size wr).drew.trans hb4)).trans hW)
      have hkb := KB.of hb4
      refine hK.out _ _ hkb ?_; clear hK K
      try simp only [Act.put, List.setIfInBounds_toArray, List.set_cons_zero, List.set_cons_succ]
      refine btake 10 (oi := _) (v := ?_) (by simp only [List.getElem?_toArray, List.getElem?_cons_succ, List.getElem?_cons_zero]; rfl) (by kernel_rfl) (by exact fun _ _ _ h => h) (by first | assumption | exact KB.refl _) (.inl ⟨by rfl, fun W hW => ?_⟩) ?_; rotate_left
      · (go_simp; first | done | with_reducible rfl)
      try simp only [Act.put, List.setIfInBounds_toArray, List.set_cons_zero, List.set_cons_succ]
      refine btake 15 (oi := _) (v := ?_) (by simp only [List.getElem?_toArray, List.getElem?_cons_succ, List.getElem?_cons_zero]; rfl) (by kernel_rfl) (by exact fun _ _ _ h => h) (by first | assumption | exact KB.refl _) (.inl ⟨by rfl, fun W hW => ?_⟩) ?_; rotate_left
      · (go_simp; first | done | with_reducible rfl)
      try simp only [Act.put, List.setIfInBounds_toArray, List.set_cons_zero, List.set_cons_succ]
      refine btake 16 (oi := _) (v := ?_) (by simp only [List.getElem?_toArray, List.getElem?_cons_succ, List.getElem?_cons_zero]; rfl) (by kernel_rfl) (by exact fun _ _ _ h => h) (by first | assumption | exact KB.refl _) (.inl ⟨by rfl, fun W hW => ?_⟩) ?_; rotate_left
      · (go_simp; first | done | with_reducible rfl)
      try simp only [Act.put, List.setIfInBounds_toArray, List.set_cons_zero, List.set_cons_succ]
      refine btake 17 (oi := _) (v := ?_) (by simp only [List.getElem?_toArray, List.getElem?_cons_succ, List.getElem?_cons_zero]; rfl) (by kernel_rfl) (by exact fun _ _ _ h => h) (by first | assumption | exact KB.refl _) (.inl ⟨by rfl, fun W hW => ?_⟩) ?_; rotate_left
      · (go_simp; first | done | with_reducible rfl)
      try simp only [Act.put, List.setIfInBounds_toArray, List.set_cons_zero, List.set_cons_succ]
      refine bdone (by kernel_rfl) ?_
      go_wp2_with fail
      go_ret
      exact ⟨rfl, bstep hbwr ((Below.refl wr.heap.size wr).drew.trans hb4)⟩
end Go.Proofs.Ytejligapkgnnnaa

