/- Dots: their bytes, and a dot taken from bytes. -/
import Derived.Test.YtpeecgphmcihaaaDot
import Derived.Test.YtpeecgphmcihaaaNumTake2
import Derived.Test.YtpeecgphmcihaaaNumPut
import Derived.Test.YtpeecgphmcihaaaNumRef
namespace Go.Proofs.Ytpeecgphmcihaaa
open Go.RowKit Go.Proofs.Ytpeecgphmcihaaa.Pl Go.Proofs.Ytpeecgphmcihaaa.Dt

theorem enc_cons (q : Nat) (r : UInt8) : [r] ++ encs [q] = r :: enc q := by simp [encs]
theorem u64_of {q : Nat} (h : q ≤ 1099511627775) : U64 q := by unfold U64; omega
set_option maxRecDepth 100000 in
set_option maxHeartbeats 1600000 in
theorem DBytes_any (w : World) (s : D2) : Calls Try.prog 16 #[s.v] w (Fresh w s.bytes) := by
  have hr := fun W => DRight_any W s
  obtain ⟨q, hq⟩ : ∃ q, s.right = q := ⟨_, rfl⟩
  rw [hq] at hr
  cases q with
  | false =>
    rw [bytes_not hq]
    unfold D2.v at hr ⊢
    have HR := Lib.hid hr
    clear hr hq
    obtain ⟨r, q⟩ := s
    go_enter Try.func16, Try.ntmps16
    go_wp2_with fail
    refine (HR.out _).mono ?_
    rintro e w1 ⟨rfl, hb1⟩
    go_wp2_with fail
    go_ret
    exact ⟨none, 0, rfl, OwnB.nil _ _, bstep ((Below.refl _ _).alloc (Nat.le_refl _) _) hb1⟩
  | true =>
    obtain ⟨g1, g2, g3, g4⟩ := right_iff.1 hq
    have hby := bytes_right hq
    obtain ⟨r, q⟩ := s
    simp only at g1 g2 g3 g4 hby
    obtain ⟨R, rfl⟩ : ∃ R : Nat, r = R := ⟨r.toNat, by omega⟩
    obtain ⟨Q, rfl⟩ : ∃ Q : Nat, q = Q := ⟨q.toNat, by omega⟩
    rw [Int.toNat_natCast, Int.toNat_natCast, ← enc_cons] at hby
    rw [hby]
    unfold D2.v at hr ⊢
    have HR := Lib.hid hr
    clear hr hq hby
    go_enter Try.func16, Try.ntmps16
    go_wp2_with fail
    obtain ⟨c0, c1⟩ := cell2 w 23 (.int .i64 (R : Int)) (.int .i64 (Q : Int))
    have hb0 := balloc (Below.refl w.heap.size w) (.cells #[.int .i64 (R : Int), .int .i64 (Q : Int)] 23)
    have hsz : w.heap.size < (w.alloc (.cells #[.int .i64 (R : Int), .int .i64 (Q : Int)] 23)).heap.size := by simp
    refine (HR.out _).mono ?_
    rintro e w1 ⟨rfl, hb1⟩
    generalize w.alloc (.cells #[.int .i64 (R : Int), .int .i64 (Q : Int)] 23) = w0 at *
    have d0 := (hb1.cell (p := ⟨w.heap.size, 0, none⟩) hsz).trans c0
    have d1 := (hb1.cell (p := ⟨w.heap.size, 1, none⟩) hsz).trans c1
    have hbw := bstep hb0 hb1
    have d2 := (World.cell?_alloc_lt w1 (.cells #[.int .u8 (R : Int)] 5) ⟨w.heap.size, 1, none⟩ (World.block_lt_of_cell? w1 _ d1)).trans d1
    have k1 : IntKind.u8.wrap (R : Int) = (R : Int) := by rw [IntKind.wrap_u8]; omega
    have k2 : IntKind.u64.wrap (Q : Int) = (Q : Int) := by rw [IntKind.wrap_u64]; omega
    clear c0 c1 hb0 hb1
    have hs1 : Sl (w1.alloc (.cells #[.int .u8 (R : Int)] 5)) (w1.heap.size + 1) (some ⟨w1.heap.size, 0, none⟩) (bv [UInt8.ofNat R]) := by
      have := Sl.new w1 5 #[.int .u8 (R : Int)] (0, 0)
      rw [show (#[Value.int .u8 (R : Int)] : Array Value).toList = bv [UInt8.ofNat R] from one_bv R (by omega)] at this
      exact this
    have hb3 := balloc (balloc hbw (.cells #[.int .u8 (R : Int)] 5)) (.cells (uv [Q]).toArray 38)
    have hP := Put_any ((w1.alloc (.cells #[.int .u8 (R : Int)] 5)).alloc (.cells (uv [Q]).toArray 38)) (some ⟨w1.heap.size, 0, none⟩) (some ⟨(w1.alloc (.cells #[.int .u8 (R : Int)] 5)).heap.size, 0, none⟩) 1 1 [UInt8.ofNat R] [Q]
      ((hs1.alloc _).more (by simp)) ((Sl.lit64 _ [Q]).more (by simp)) (by simp; exact u64_of (by omega)) (by simp)
    simp only [World.size_alloc] at hP
    go_wp2_with fail
    refine Calls.mono hP ?_
    rintro e w2 ⟨A, c, rfl, h1, h2⟩
    go_wp2_with fail
    go_ret
    exact ⟨A, c, rfl, h1.lower (by have := hbw.size; simp; omega), bstep hb3 h2⟩
set_option maxRecDepth 100000 in
set_option maxHeartbeats 1600000 in
theorem RDBytes_any (w : World) (s : D2) : Calls Try.prog 17 #[s.v] w (Fresh w s.bytes) := by
  have hr := fun W => RDRight_any W s
  obtain ⟨q, hq⟩ : ∃ q, s.right = q := ⟨_, rfl⟩
  rw [hq] at hr
  cases q with
  | false =>
    rw [bytes_not hq]
    unfold D2.v at hr ⊢
    have HR := Lib.hid hr
    clear hr hq
    obtain ⟨r, q⟩ := s
    go_enter Try.func17, Try.ntmps17
    go_wp2_with fail
    refine (HR.out _).mono ?_
    rintro e w1 ⟨rfl, hb1⟩
    go_wp2_with fail
    go_ret
    exact ⟨none, 0, rfl, OwnB.nil _ _, bstep ((Below.refl _ _).alloc (Nat.le_refl _) _) hb1⟩
  | true =>
    obtain ⟨g1, g2, g3, g4⟩ := right_iff.1 hq
    have hby := bytes_right hq
    obtain ⟨r, q⟩ := s
    simp only at g1 g2 g3 g4 hby
    obtain ⟨R, rfl⟩ : ∃ R : Nat, r = R := ⟨r.toNat, by omega⟩
    obtain ⟨Q, rfl⟩ : ∃ Q : Nat, q = Q := ⟨q.toNat, by omega⟩
    rw [Int.toNat_natCast, Int.toNat_natCast, ← enc_cons] at hby
    rw [hby]
    unfold D2.v at hr ⊢
    have HR := Lib.hid hr
    clear hr hq hby
    go_enter Try.func17, Try.ntmps17
    go_wp2_with fail
    obtain ⟨c0, c1⟩ := cell2 w 23 (.int .i64 (R : Int)) (.int .i64 (Q : Int))
    have hb0 := balloc (Below.refl w.heap.size w) (.cells #[.int .i64 (R : Int), .int .i64 (Q : Int)] 23)
    have hsz : w.heap.size < (w.alloc (.cells #[.int .i64 (R : Int), .int .i64 (Q : Int)] 23)).heap.size := by simp
    refine (HR.out _).mono ?_
    rintro e w1 ⟨rfl, hb1⟩
    generalize w.alloc (.cells #[.int .i64 (R : Int), .int .i64 (Q : Int)] 23) = w0 at *
    have d0 := (hb1.cell (p := ⟨w.heap.size, 0, none⟩) hsz).trans c0
    have d1 := (hb1.cell (p := ⟨w.heap.size, 1, none⟩) hsz).trans c1
    have hbw := bstep hb0 hb1
    have d2 := (World.cell?_alloc_lt w1 (.cells #[.int .u8 (R : Int)] 5) ⟨w.heap.size, 1, none⟩ (World.block_lt_of_cell? w1 _ d1)).trans d1
    have k1 : IntKind.u8.wrap (R : Int) = (R : Int) := by rw [IntKind.wrap_u8]; omega
    have k2 : IntKind.u64.wrap (Q : Int) = (Q : Int) := by rw [IntKind.wrap_u64]; omega
    clear c0 c1 hb0 hb1
    have hs1 : Sl (w1.alloc (.cells #[.int .u8 (R : Int)] 5)) (w1.heap.size + 1) (some ⟨w1.heap.size, 0, none⟩) (bv [UInt8.ofNat R]) := by
      have := Sl.new w1 5 #[.int .u8 (R : Int)] (0, 0)
      rw [show (#[Value.int .u8 (R : Int)] : Array Value).toList = bv [UInt8.ofNat R] from one_bv R (by omega)] at this
      exact this
    have hb3 := balloc (balloc hbw (.cells #[.int .u8 (R : Int)] 5)) (.cells (uv [Q]).toArray 38)
    have hP := RefPut_any ((w1.alloc (.cells #[.int .u8 (R : Int)] 5)).alloc (.cells (uv [Q]).toArray 38)) (some ⟨w1.heap.size, 0, none⟩) (some ⟨(w1.alloc (.cells #[.int .u8 (R : Int)] 5)).heap.size, 0, none⟩) 1 1 [UInt8.ofNat R] [Q]
      ((hs1.alloc _).more (by simp)) ((Sl.lit64 _ [Q]).more (by simp)) (by simp; exact u64_of (by omega)) (by simp)
    simp only [World.size_alloc] at hP
    go_wp2_with fail
    refine Calls.mono hP ?_
    rintro e w2 ⟨A, c, rfl, h1, h2⟩
    go_wp2_with fail
    go_ret
    exact ⟨A, c, rfl, h1.lower (by have := hbw.size; simp; omega), bstep hb3 h2⟩
end Go.Proofs.Ytpeecgphmcihaaa

