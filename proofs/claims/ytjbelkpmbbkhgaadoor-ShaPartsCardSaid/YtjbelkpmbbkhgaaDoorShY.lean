/- Digests: the program's parse, walked. -/
import Derived.Test.YtjbelkpmbbkhgaaDoorShQ
import Derived.Test.YtjbelkpmbbkhgaaDoorCon
namespace Go.Proofs.YtjbelkpmbbkhgaaDoor
open Go.RowKit Go.Proofs.YtjbelkpmbbkhgaaDoor.Sh

theorem run_indexByte {P : Program} {w : World} {g : Nat} {l : List UInt8} (h : ∀ i v, (bv l)[i]? = some v → w.cell? ⟨g, i, none⟩ = some v) (n c : Nat) (hn : n = l.length) (x : UInt8) :
    (Extern.BytealgIndexByte.indexByte #[.slice (some ⟨g, 0, none⟩) n c, .int .u8 (x.toNat : Int)]).run P w = .ok (.int .i64 (Lib.indexByte l x)) w := by
  have e : Lib.bytesOf (l.map (fun u => (u.toNat : Int))) = l := by
    simp only [Lib.bytesOf, List.map_map]
    rw [show ((fun (n : Int) => UInt8.ofNat n.toNat) ∘ fun (u : UInt8) => (u.toNat : Int)) = id by funext u; simp]
    exact List.map_id l
  have hr := Lib.run_indexByteSlice (P := P) (w := w) g 0 n c (l.map (fun u => (u.toNat : Int))) (by rw [List.length_map, hn]) (fun i hi => by
    have hi' : i < l.length := by omega
    rw [Nat.zero_add]
    refine h i _ ?_
    rw [bv_get l i hi', List.getD_eq_getElem?_getD, List.getElem?_map, List.getElem?_eq_getElem hi']
    rfl) (x.toNat : Int)
  rw [e, show (x.toNat : Int).toNat.toUInt8 = x by simp] at hr
  exact hr
set_option maxRecDepth 100000 in
theorem IndexByte_any (w : World) (g : Nat) (l : List UInt8) (h : ∀ i v, (bv l)[i]? = some v → w.cell? ⟨g, i, none⟩ = some v) (n c : Nat) (hn : n = l.length) (x : UInt8) :
    Calls Tryd.prog 19 #[.slice (some ⟨g, 0, none⟩) n c, .int .u8 (x.toNat : Int)] w fun e w' => e = .returned (.int .i64 (Lib.indexByte l x)) ∧ w = w' := by
  have HC := Lib.hid (run_indexByte (P := Tryd.prog) h n c hn x)
  clear hn
  go_enter Tryd.func19, Tryd.ntmps19
  go_wp2_with fail
  rw [run_callFunc_extern Tryd.func26 (by kernel_rfl) (by kernel_rfl) (by kernel_rfl) (e := Extern.BytealgIndexByte.indexByte) (by kernel_rfl), HC.out]
  simp only [Result.andThen]
  rw [Oper.upon_value]
  go_wp2_with fail
  go_ret
  exact ⟨rfl, rfl⟩
theorem new_cells (w : World) (t : TypeId) (cs : Array Value) (fr : Nat × Nat) (i : Nat) (v : Value) (h : cs.toList[i]? = some v) : (w.alloc (.cells cs t fr)).cell? ⟨w.heap.size, i, none⟩ = some v := by
  simp only [World.cell?, World.alloc]
  rw [Array.getElem?_push_size]
  simpa using h
theorem hexs_index (x : UInt8) : Lib.indexByte hexs x = digS x := by
  have h : (List.range 256).all (fun n => decide (Lib.indexByte hexs (UInt8.ofNat n) = digS (UInt8.ofNat n))) = true := by decide +kernel
  rw [List.all_eq_true] at h
  have := h x.toNat (List.mem_range.2 (UInt8.toNat_lt x))
  simpa using this
set_option maxRecDepth 100000 in
set_option maxHeartbeats 1600000 in
theorem Parse_any (w : World) (s : List UInt8) :
    Calls Tryd.prog 12 #[.string ⟨s.toArray⟩] w fun e w' => e = .returned (.tuple #[.agg (bv (parse s).1).toArray, .bool (parse s).2]) ∧ Below w.heap.size w w' := by
  have hR1 := At.new w 26 (bv z32).toArray
  have hb1 := balloc (Below.refl w.heap.size w) (.cells (bv z32).toArray 26)
  generalize hw1 : w.alloc (.cells (bv z32).toArray 26) = w1 at *
  have hO2 := At.new w1 26 (bv z32).toArray
  have hR2 := hR1.alloc (.cells (bv z32).toArray 26)
  have hb2 := hb1.alloc hb1.size (.cells (bv z32).toArray 26)
  have hlt1 : w.heap.size < w1.heap.size := hR1.1
  replace hO2 : At (w1.alloc (.cells (bv z32).toArray 26)) w1.heap.size (bv z32) := hO2
  replace hR2 : At (w1.alloc (.cells (bv z32).toArray 26)) w.heap.size (bv z32) := hR2
  have HF := Lib.hid (And.intro hO2 hR2)
  have kc := fun (w : World) (C : Array Value) (n c : Nat) => Lib.run_convert_bytes_const (P := Tryd.prog) w 24 5 C n c Tryd.underlying24 Tryd.underlying5
  have h32 : (bv z32).length = 32 := rfl
  obtain ⟨n, hn⟩ : ∃ n, n = s.length := ⟨_, rfl⟩
  have HN := Lib.hid hn
  have hsz : (ByteArray.mk s.toArray).size = n := by rw [hn]; rfl
  clear hn
  go_enter Tryd.func12, Tryd.ntmps12
  by_cases h64 : n = 64
  · have hne : ((n : Int) != 64) = false := by rw [bne_eq_false_iff_eq]; omega
    have HN64 := Lib.hid h64
    clear hR1 hb1 h32 h64
    go_wp2_with (refine opVal rfl (ex_al32 rfl) ?_; try rw [hw1])
    generalize w1.alloc (.cells (bv z32).toArray 26) = w2 at *
    generalize hg1 : w1.heap.size = go at hO2 hlt1 ⊢
    have hgo : w.heap.size ≤ go := by omega
    go_loopw [13] (fun z5 wr => ∃ k : Nat, k ≤ 64 ∧ z5 = .int .i64 (k : Int) ∧ good s k ∧ At wr go (bv (parK s k)) ∧ At wr w.heap.size (bv z32) ∧ Below w.heap.size w wr) (fun z5 _ => 64 - (intOf z5).toNat)
    case atStart => exact ⟨0, by omega, rfl, fun i hi => absurd hi (Nat.not_lt_zero i), hO2, hR2, hb2⟩
    case round =>
      clear hO2 hR2 hb2
      obtain ⟨k, hk, rfl, hgood, hO, hR, hbel⟩ := hrel
      by_cases hlt : k < 64
      · have hks : k < s.length := by rw [← HN.out, HN64.out]; exact hlt
        obtain ⟨c, hc⟩ : ∃ c, s[k]? = some c := ⟨_, List.getElem?_eq_getElem hks⟩
        have hcd : s[k]?.getD 0 = c := by rw [hc]; rfl
        have HC := Lib.hid (And.intro hc hcd)
        have hkn : (k : Int) < (n : Int) := by rw [HN64.out]; omega
        clear hc hcd hks
        go_wp2_with (refine opVal rfl (ex_sidx2 rfl rfl rfl HC.out.1) ?_)
        have hH := new_cells wr 5 #[.int .u8 48, .int .u8 49, .int .u8 50, .int .u8 51, .int .u8 52, .int .u8 53, .int .u8 54, .int .u8 55, .int .u8 56, .int .u8 57, .int .u8 97, .int .u8 98, .int .u8 99, .int .u8 100, .int .u8 101, .int .u8 102] (16, 17)
        have hO := hO.below (balloc (Below.refl _ _) (.cells #[.int .u8 48, .int .u8 49, .int .u8 50, .int .u8 51, .int .u8 52, .int .u8 53, .int .u8 54, .int .u8 55, .int .u8 56, .int .u8 57, .int .u8 97, .int .u8 98, .int .u8 99, .int .u8 100, .int .u8 101, .int .u8 102] 5 (16, 17)))
        have hR := hR.below (balloc (Below.refl _ _) (.cells #[.int .u8 48, .int .u8 49, .int .u8 50, .int .u8 51, .int .u8 52, .int .u8 53, .int .u8 54, .int .u8 55, .int .u8 56, .int .u8 57, .int .u8 97, .int .u8 98, .int .u8 99, .int .u8 100, .int .u8 101, .int .u8 102] 5 (16, 17)))
        have hbel := balloc hbel (.cells #[.int .u8 48, .int .u8 49, .int .u8 50, .int .u8 51, .int .u8 52, .int .u8 53, .int .u8 54, .int .u8 55, .int .u8 56, .int .u8 57, .int .u8 97, .int .u8 98, .int .u8 99, .int .u8 100, .int .u8 101, .int .u8 102] 5 (16, 17))
        have hix := IndexByte_any _ _ hexs hH 16 16 rfl c
        rw [hexs_index] at hix
        generalize wr.alloc _ = wk at hH hO hR hbel hix ⊢
        refine hix.mono ?_
        clear hix hH
        rintro e w3 ⟨rfl, rfl⟩
        obtain ⟨d, hd⟩ : ∃ d, d = digS c := ⟨_, rfl⟩
        rw [← hd]
        have hd16 := digS_lt c
        rw [← hd] at hd16
        have HD := Lib.hid hd
        clear hd
        by_cases hneg : d < 0
        · have hp : parse s = (z32, false) := by unfold parse; rw [if_neg]; intro h; exact bad_all (k := k) (by rw [← HN.out, HN64.out]; exact hlt) (by rw [HC.out.2, ← HD.out]; exact hneg) h.2
          have HP := Lib.hid hp
          have hRf := hR.putL (bv z32) rfl
          have hbf := below_putL (bv z32) 0 hbel (Nat.le_refl _)
          have HG := Lib.hid (And.intro hRf hbf)
          clear hRf hbf hp hO
          go_wp2_with (first
            | (refine opVal rfl (ex_bld32 rfl) ?_)
            | (refine opSkip rfl (ex_st32 rfl rfl rfl hR rfl rfl (bv_one _)) ?_))
          exact bodyPost_ret (results_idb rfl _ rfl rfl HG.out.1 rfl) rfl ⟨by rw [HP.out]; rfl, HG.out.2⟩
        · obtain ⟨z, rfl⟩ : ∃ z : Nat, d = (z : Int) := ⟨d.toNat, by omega⟩
          obtain ⟨a, ha⟩ : ∃ a, a = k / 2 := ⟨_, rfl⟩
          have ha32 : a < 32 := by omega
          have qa : (k : Int) / 2 = (a : Int) := by omega
          have hz16 : z < 16 := by omega
          have hgood' : good s (k + 1) := by
            intro i hi
            by_cases e : i = k
            · rw [e, HC.out.2, ← HD.out]; omega
            · exact hgood i (by omega)
          have hpl := parK_len s k
          have hstep : parK s (k + 1) = (parK s k).set (k / 2) (UInt8.ofNat ((((parK s k)[k / 2]?.getD 0).toNat * 16 % 256) ||| (digS (s[k]?.getD 0)).toNat)) := rfl
          rw [HC.out.2, ← HD.out, Int.toNat_natCast, ← ha] at hstep
          have y0 := hO.c a (bv_get _ a (by rw [hpl]; exact ha32))
          have f0 := hO.f a (bv_get _ a (by rw [hpl]; exact ha32))
          have hyl : ((parK s k)[a]?.getD 0).toNat < 256 := UInt8.toNat_lt _
          obtain ⟨L', hL'⟩ : ∃ L', L' = parK s (k + 1) := ⟨_, rfl⟩
          have HL' := Lib.hid hL'
          rw [← hL'] at hstep
          clear hL'
          generalize parK s k = L at *
          generalize (L[a]?.getD 0).toNat = y at *
          obtain ⟨x, hx⟩ : ∃ x, x = (y * 16 % 256) ||| z := ⟨_, rfl⟩
          rw [← hx] at hstep
          have hxl : x < 256 := by rw [hx]; exact Nat.or_lt_two_pow (n := 8) (by omega) (by omega)
          have hor : bits .or .u8 ((y : Int) * 16 % 256) (z : Int) = (x : Int) := by
            rw [show (y : Int) * 16 % 256 = ((y * 16 % 256 : Nat) : Int) by push_cast; rfl, u8_or_nat _ _ (Nat.mod_lt _ (by omega)) (by omega), hx]
          have hst := hO.set a (.int .u8 (x : Int)) (by rw [bv_len, hpl]; exact ha32)
          rw [bv_set _ _ _ hxl, ← hstep] at hst
          have hR2 := hR.set_other a (.int .u8 (x : Int)) (by omega : go ≠ w.heap.size)
          have hb2 := hbel.setCell (p := ⟨go, a, none⟩) hgo (.int .u8 (x : Int))
          have HX := Lib.hid (And.intro hx hstep)
          clear hx hstep ha hO hR hbel hgood hneg
          go_wp2_with fail
          try rw [hor]
          go_roundw
          case rel => exact ⟨k + 1, by omega, by go_num, hgood', HL'.out ▸ hst, hR2, hb2⟩
          case measure => simp [intOf] <;> omega
      · obtain rfl : k = 64 := by omega
        have hsl : s.length = 64 := HN.out.symm.trans HN64.out
        have hp : parse s = (parK s 64, true) := by unfold parse; rw [if_pos ⟨hsl, good_all hsl hgood⟩]
        have hpl := parK_len s 64
        have HP := Lib.hid hp
        have ho32 : (bv (parK s 64)).length = 32 := by rw [bv_len, hpl]
        generalize parK s 64 = out at *
        have hRf := hR.putL (bv out) (by rw [ho32]; rfl)
        have hbf := below_putL (bv out) 0 hbel (Nat.le_refl _)
        have HG := Lib.hid (And.intro hRf (And.intro ho32 hbf))
        have HW := Lib.hid (And.intro hO hR)
        clear hRf hbf hp hO hR hgood hpl ho32 hsl
        have hkn : ¬ ((64 : Int) < (n : Int)) := by rw [HN64.out]; omega
        rw [show (((64 : Nat)) : Int) = (64 : Int) from rfl]
        go_wp2_with (first
          | (refine opVal rfl (ex_ld32 rfl rfl HW.out.1 HG.out.2.1) ?_)
          | (refine opSkip rfl (ex_st32 rfl rfl rfl HW.out.2 rfl HG.out.2.1 (bv_one _)) ?_))
        exact bodyPost_ret (results_idb rfl _ rfl rfl HG.out.1 HG.out.2.1) rfl ⟨by rw [HP.out]; rfl, HG.out.2.2⟩
  · have hne : ((n : Int) != 64) = true := by rw [bne_iff_ne]; omega
    have hp : parse s = (z32, false) := by unfold parse; rw [if_neg]; intro h; exact h64 (HN.out.trans h.1)
    have HP := Lib.hid hp
    clear hp
    have hRf := hR2.putL (bv z32) rfl
    have hbf := below_putL (bv z32) 0 hb2 (Nat.le_refl _)
    have HG := Lib.hid (And.intro hRf hbf)
    clear hRf hbf hR2 hO2 hb2 hR1 hb1 h32
    go_wp2_with (first
      | (refine opVal rfl (ex_al32 rfl) ?_; try rw [hw1])
      | (refine opVal rfl (ex_bld32 rfl) ?_)
      | (refine opSkip rfl (ex_st32 rfl rfl rfl HF.out.2 rfl rfl (bv_one _)) ?_))
    exact bodyPost_ret (results_idb rfl _ rfl rfl HG.out.1 rfl) rfl ⟨by rw [HP.out]; rfl, HG.out.2⟩
end Go.Proofs.YtjbelkpmbbkhgaaDoor

