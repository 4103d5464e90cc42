/- Digests: the document's parse, walked. -/
import Derived.Test.YtjbelkpmbbkhgaaShP
namespace Go.Proofs.Ytjbelkpmbbkhgaa
open Go.RowKit Go.Proofs.Ytjbelkpmbbkhgaa.Sh

set_option maxRecDepth 100000 in
set_option maxHeartbeats 1600000 in
theorem IdParse_any (w : World) (s : List UInt8) :
    Calls Try.prog 9 #[.string ⟨s.toArray⟩] w fun e w' => e = .returned (.tuple #[.agg (bv (parse s).1).toArray, .bool (parse s).2]) ∧ Below w.heap.size w w' := by
  have hR1 := At.new w 23 (bv z32).toArray
  have hb1 := balloc (Below.refl w.heap.size w) (.cells (bv z32).toArray 23)
  generalize hw1 : w.alloc (.cells (bv z32).toArray 23) = w1 at *
  have hO2 := At.new w1 23 (bv z32).toArray
  have hR2 := hR1.alloc (.cells (bv z32).toArray 23)
  have hb2 := hb1.alloc hb1.size (.cells (bv z32).toArray 23)
  have hlt1 : w.heap.size < w1.heap.size := hR1.1
  replace hO2 : At (w1.alloc (.cells (bv z32).toArray 23)) w1.heap.size (bv z32) := hO2
  replace hR2 : At (w1.alloc (.cells (bv z32).toArray 23)) w.heap.size (bv z32) := hR2
  have HF := Lib.hid (And.intro hO2 hR2)
  have h32 : (bv z32).length = 32 := rfl
  obtain ⟨n, hn⟩ : ∃ n, n = s.length := ⟨_, rfl⟩
  have HN := Lib.hid hn
  have hsz : (ByteArray.mk s.toArray).size = n := by rw [hn]; rfl
  clear hn
  go_enter Try.func9, Try.ntmps9
  by_cases h64 : n = 64
  · have hne : ((n : Int) != 64) = false := by rw [bne_eq_false_iff_eq]; omega
    have HN64 := Lib.hid h64
    clear hR1 hb1 h32 h64
    go_wp2_with (refine opVal rfl (ex_al32 rfl) ?_; try rw [hw1])
    generalize w1.alloc (.cells (bv z32).toArray 23) = w2 at *
    generalize hg1 : w1.heap.size = go at hO2 hlt1 ⊢
    have hgo : w.heap.size ≤ go := by omega
    go_loopw [5] (fun z5 wr => ∃ k : Nat, k ≤ 64 ∧ z5 = .int .i64 (k : Int) ∧ good s k ∧ At wr go (bv (parK s k)) ∧ At wr w.heap.size (bv z32) ∧ Below w.heap.size w wr) (fun z5 _ => 64 - (intOf z5).toNat)
    case atStart => exact ⟨0, by omega, rfl, fun i hi => absurd hi (Nat.not_lt_zero i), hO2, hR2, hb2⟩
    case round =>
      clear hO2 hR2 hb2
      obtain ⟨k, hk, rfl, hgood, hO, hR, hbel⟩ := hrel
      by_cases hlt : k < 64
      · have hks : k < s.length := by rw [← HN.out, HN64.out]; exact hlt
        obtain ⟨c, hc⟩ : ∃ c, s[k]? = some c := ⟨_, List.getElem?_eq_getElem hks⟩
        have hcd : s[k]?.getD 0 = c := by rw [hc]; rfl
        have HC := Lib.hid (And.intro hc hcd)
        clear hc hcd hks
        go_wp2_with (refine opVal rfl (ex_sidx2 rfl rfl rfl HC.out.1) ?_)
        refine (digit_any wr c).mono ?_
        rintro e w3 ⟨rfl, rfl⟩
        obtain ⟨d, hd⟩ : ∃ d, d = digS c := ⟨_, rfl⟩
        rw [← hd]
        have hd16 := digS_lt c
        rw [← hd] at hd16
        have HD := Lib.hid hd
        clear hd
        by_cases hneg : d < 0
        · have hp : parse s = (z32, false) := by unfold parse; rw [if_neg]; intro h; exact bad_all (k := k) (by rw [← HN.out, HN64.out]; exact hlt) (by rw [HC.out.2, ← HD.out]; exact hneg) h.2
          have HP := Lib.hid hp
          have hRf := hR.putL (bv z32) rfl
          have hbf := below_putL (bv z32) 0 hbel (Nat.le_refl _)
          have HG := Lib.hid (And.intro hRf hbf)
          clear hRf hbf hp hO
          go_wp2_with (first
            | (refine opVal rfl (ex_bld32 rfl) ?_)
            | (refine opSkip rfl (ex_st32 rfl rfl rfl hR rfl rfl (bv_one _)) ?_))
          exact bodyPost_ret (results_idb rfl _ rfl rfl HG.out.1 rfl) rfl ⟨by rw [HP.out]; rfl, HG.out.2⟩
        · obtain ⟨z, rfl⟩ : ∃ z : Nat, d = (z : Int) := ⟨d.toNat, by omega⟩
          obtain ⟨a, ha⟩ : ∃ a, a = k / 2 := ⟨_, rfl⟩
          have ha32 : a < 32 := by omega
          have qa : (k : Int) / 2 = (a : Int) := by omega
          have hz16 : z < 16 := by omega
          have hgood' : good s (k + 1) := by
            intro i hi
            by_cases e : i = k
            · rw [e, HC.out.2, ← HD.out]; omega
            · exact hgood i (by omega)
          have hpl := parK_len s k
          have hstep : parK s (k + 1) = (parK s k).set (k / 2) (UInt8.ofNat ((((parK s k)[k / 2]?.getD 0).toNat * 16 % 256) ||| (digS (s[k]?.getD 0)).toNat)) := rfl
          rw [HC.out.2, ← HD.out, Int.toNat_natCast, ← ha] at hstep
          have y0 := hO.c a (bv_get _ a (by rw [hpl]; exact ha32))
          have f0 := hO.f a (bv_get _ a (by rw [hpl]; exact ha32))
          have hyl : ((parK s k)[a]?.getD 0).toNat < 256 := UInt8.toNat_lt _
          obtain ⟨L', hL'⟩ : ∃ L', L' = parK s (k + 1) := ⟨_, rfl⟩
          have HL' := Lib.hid hL'
          rw [← hL'] at hstep
          clear hL'
          generalize parK s k = L at *
          generalize (L[a]?.getD 0).toNat = y at *
          obtain ⟨x, hx⟩ : ∃ x, x = (y * 16 % 256) ||| z := ⟨_, rfl⟩
          rw [← hx] at hstep
          have hxl : x < 256 := by rw [hx]; exact Nat.or_lt_two_pow (n := 8) (by omega) (by omega)
          have hor : bits .or .u8 ((y : Int) * 16 % 256) (z : Int) = (x : Int) := by
            rw [show (y : Int) * 16 % 256 = ((y * 16 % 256 : Nat) : Int) by push_cast; rfl, u8_or_nat _ _ (Nat.mod_lt _ (by omega)) (by omega), hx]
          have hst := hO.set a (.int .u8 (x : Int)) (by rw [bv_len, hpl]; exact ha32)
          rw [bv_set _ _ _ hxl, ← hstep] at hst
          have hR2 := hR.set_other a (.int .u8 (x : Int)) (by omega : go ≠ w.heap.size)
          have hb2 := hbel.setCell (p := ⟨go, a, none⟩) hgo (.int .u8 (x : Int))
          have HX := Lib.hid (And.intro hx hstep)
          clear hx hstep ha hO hR hbel hgood hneg
          go_wp2_with fail
          try rw [hor]
          go_roundw
          case rel => exact ⟨k + 1, by omega, by go_num, hgood', HL'.out ▸ hst, hR2, hb2⟩
          case measure => simp [intOf] <;> omega
      · obtain rfl : k = 64 := by omega
        have hsl : s.length = 64 := HN.out.symm.trans HN64.out
        have hp : parse s = (parK s 64, true) := by unfold parse; rw [if_pos ⟨hsl, good_all hsl hgood⟩]
        have hpl := parK_len s 64
        have HP := Lib.hid hp
        have ho32 : (bv (parK s 64)).length = 32 := by rw [bv_len, hpl]
        generalize parK s 64 = out at *
        have hRf := hR.putL (bv out) (by rw [ho32]; rfl)
        have hbf := below_putL (bv out) 0 hbel (Nat.le_refl _)
        have HG := Lib.hid (And.intro hRf (And.intro ho32 hbf))
        have HW := Lib.hid (And.intro hO hR)
        clear hRf hbf hp hO hR hgood hpl ho32 hsl
        rw [show (((64 : Nat)) : Int) = (64 : Int) from rfl]
        go_wp2_with (first
          | (refine opVal rfl (ex_ld32 rfl rfl HW.out.1 HG.out.2.1) ?_)
          | (refine opSkip rfl (ex_st32 rfl rfl rfl HW.out.2 rfl HG.out.2.1 (bv_one _)) ?_))
        exact bodyPost_ret (results_idb rfl _ rfl rfl HG.out.1 HG.out.2.1) rfl ⟨by rw [HP.out]; rfl, HG.out.2.2⟩
  · have hne : ((n : Int) != 64) = true := by rw [bne_iff_ne]; omega
    have hp : parse s = (z32, false) := by unfold parse; rw [if_neg]; intro h; exact h64 (HN.out.trans h.1)
    have HP := Lib.hid hp
    clear hp
    have hRf := hR2.putL (bv z32) rfl
    have hbf := below_putL (bv z32) 0 hb2 (Nat.le_refl _)
    have HG := Lib.hid (And.intro hRf hbf)
    clear hRf hbf hR2 hO2 hb2 hR1 hb1 h32
    go_wp2_with (first
      | (refine opVal rfl (ex_al32 rfl) ?_; try rw [hw1])
      | (refine opVal rfl (ex_ld32 rfl rfl HF.out.1 rfl) ?_)
      | (refine opSkip rfl (ex_st32 rfl rfl rfl HF.out.2 rfl rfl (bv_one _)) ?_))
    exact bodyPost_ret (results_idb rfl _ rfl rfl HG.out.1 rfl) rfl ⟨by rw [HP.out]; rfl, HG.out.2⟩
end Go.Proofs.Ytjbelkpmbbkhgaa

