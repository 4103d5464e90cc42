/- 'FrameSpoilt': the walk of the law. -/
import Derived.Test.YtkgmbpbbgkjidaaFrB
namespace Go.Proofs.Ytkgmbpbbgkjidaa
open Go.RowKit Go.Proofs.Ytkgmbpbbgkjidaa.Pl Go.Proofs.Ytkgmbpbbgkjidaa.Pc

set_option maxRecDepth 100000 in
set_option maxHeartbeats 6400000 in
theorem FrameSpoilt_walk (w : World) (k : Nat) (hk : k < 256) (g : Nat) (hg : g < 4294967296) (A : Option Addr) (c : Nat) (p : List UInt8) (hb : Sl w w.heap.size A (bv p)) (hc : p.length ≤ c) (hm : c ≤ 140737488351232) (a : Int) (ha : -9223372036854775808 ≤ a ∧ a ≤ 9223372036854775807) (x : Nat) (hx : x < 256) :
    Calls Try.prog 12 #[.int .u8 (k : Int), .int .u32 (g : Int), .slice A p.length c, .int .i64 a, .int .u8 (x : Int)] w fun e w' => e = .returned (.bool true) ∧ Below w.heap.size w w' := by
  obtain ⟨ha1, ha2⟩ := ha
  have hcm : c ≤ maxLen := by simp [maxLen]; omega
  have hm1 := u8_half63 k hk
  have hm2 := u32_63 g hg
  have hm3 : (k : Int) % 2 = ((k % 2 : Nat) : Int) := by omega
  have hm4 : IntKind.i64.wrap (((k / 2 % 64 : Nat) : Int)) = ((k / 2 % 64 : Nat) : Int) := by rw [IntKind.wrap_i64]; omega
  have hmr := mk_right k g p
  have hml : (mkF k g p).p = p := rfl
  have hmg : (mkF k g p).g = g := rfl
  obtain ⟨x1, hx1⟩ : ∃ x1, x1 = mkF k g p := ⟨_, rfl⟩
  have hx1' : x1 = ⟨((k % 2 + 1 : Nat) : Int), g, ((k / 2 % 64 : Nat) : Int), ((g % 64 : Nat) : Int), p⟩ := hx1
  have hkk : ((k % 2 + 1 : Nat) : Int) = ((k % 2 : Nat) : Int) + 1 := by omega
  rw [hkk] at hx1'
  have hk2 : k % 2 < 2 := by omega
  have hk64 : k / 2 % 64 < 64 := by omega
  have hg64 : g % 64 < 64 := by omega
  rw [← hx1] at hmr hml hmg
  generalize k / 2 % 64 = K64 at *
  generalize k % 2 = K2 at *
  generalize g % 64 = G64 at *
  clear hx1 hkk
  have HX := Lib.hid hx1'
  clear hx1'
  go_enter Try.func12, Try.ntmps12
  go_wp2_with fail
  refine (frKnown_any w).mono ?_
  rintro e w1 ⟨rfl, b1⟩
  have sp := (hb.below b1).more b1.size
  clear hb
  by_cases h1 : 2000 < p.length
  · have hd : decide (2000 < (p.length : Int)) = true := by simp; omega
    go_wp2_with fail
    go_ret
    exact ⟨rfl, b1⟩
  have hd1 : decide (2000 < (p.length : Int)) = false := by simp; omega
  by_cases hx0 : x = 0
  · subst hx0
    go_wp2_with fail
    go_ret
    exact ⟨rfl, b1⟩
  have hxi : ((x : Int) == 0) = false := by simp; omega
  have hle := len_ge x1
  have hbl := bytes_len x1
  rw [hml] at hle
  have hpm : putF ⟨(K2 : Int) + 1, g, (K64 : Int), (G64 : Int), p⟩ 65536 = (x1.bytes, 0) := by
    rw [← HX.out]
    refine put_fits hmr ?_
    rw [held_max]
    omega
  have hsp := fun lim j hj => read_spoilt x1 lim j hj (UInt8.ofNat x) (by intro e; have := congrArg UInt8.toNat e; simp at this; omega)
  have hpx : x1.bytes.length = x1.len := hbl
  have hS14 : 14 ≤ x1.bytes.length ∧ x1.bytes.length ≤ 2100 := by omega
  have HPM := Lib.hid (And.intro hpm hsp)
  clear hpm hsp hpx hbl hle hml hmr hmg
  generalize x1.bytes = S at *
  obtain ⟨hS1, hS2⟩ := hS14
  have hSe : ((S.length : Int) == 0) = false := by simp; intro h; rw [h] at hS1; simp at hS1
  go_wp2_with fail
  refine (FPut_lit w1 _ _ _ g p A p.length c 65536 S 0 sp rfl hc hcm (by omega) hg HPM.out.1).mono ?_
  rintro e w2 ⟨A2, c2, rfl, s2, hc2, hm2', hb2⟩
  have b2 := b1.trans (hb2.mono b1.size)
  clear hb2 sp b1 hm1 hm2 hm3 hm4
  go_wp2_with (at_builtin; go_loud (refine appG (by rfl) rfl (OwnB.nil w2 w2.heap.size) s2 rfl rfl rfl (by simp; omega) (Nat.le_refl _) ?_); intro s3 w3 hown3 hg3 hat3; have hb3 : Below w2.heap.size w2 w3 := below_of_grown hg3 (fun k e => by simp [Value.ownBlock] at e) (Nat.le_refl _); rw [List.nil_append] at hown3; obtain ⟨gb, cap, rfl, hgb, hgw, hcap, hcapm⟩ := hown3.head (by omega))
  have s2' := (s2.below hb3).more hb3.size
  have b3 := b2.trans (hb3.mono b2.size)
  have hsz2 := b2.size
  have hsz3 := hb3.size
  refine (Place_any w3 a S.length (by omega) (by omega) ha1 ha2).mono ?_
  rintro e w4 ⟨j, hj, rfl, rfl⟩
  have hxu : (x : Int) = ((UInt8.ofNat x).toNat : Int) := by simp only [UInt8.toNat_ofNat']; omega
  have HU := Lib.hid hxu
  have hxor : bits .xor .u8 ((S[j]?.getD 0).toNat : Int) (x : Int) = ((S[j]?.getD 0 ^^^ UInt8.ofNat x).toNat : Int) := by rw [HU.out, xor_u8]
  obtain ⟨e0, he0, hrd⟩ := HPM.out.2 65536 j hj
  obtain ⟨hcell, hfz, hst, hgr⟩ := hown3.store j (S[j]?.getD 0 ^^^ UInt8.ofNat x).toNat hj (UInt8.toNat_lt _)
  rw [UInt8.ofNat_toNat] at hst
  have hck : (j : Int) ≤ (cap : Int) := by omega
  clear hxu
  have HRD := Lib.hid hrd
  clear hrd
  generalize S[j]?.getD 0 ^^^ UInt8.ofNat x = z at *
  generalize S[j]?.getD 0 = y at *
  have hbst := below_of_grown hgr (B := w2.heap.size) (fun g' e => by cases e; exact hgb) (by omega)
  have b4 := b3.trans (hbst.mono hsz2)
  go_wp2_with fail
  have hTl : (S.set j z).length = S.length := by simp
  have hso := OwnB.sl (l := S.set j z) (by rw [hTl]; exact hst)
  rw [hTl] at hso
  generalize w4.setCell ⟨gb, j, none⟩ (.int .u8 (z.toNat : Int)) = w5 at *
  have HT := Lib.hid hTl
  clear hTl hcell hfz hst hgr hbst hown3
  generalize S.set j z = S' at *
  obtain ⟨hso1, hso2, hso3⟩ := hso
  refine (FRead_lit w5 (some ⟨gb, 0, none⟩) S.length cap S' 65536 0 0 0 0 [] e0 hso1 HT.out.symm hso2 hso3 HRD.out).mono ?_
  rintro e w6 ⟨A6, c6, rfl, s6, hc6, hm6, hb6⟩
  have b6 := b4.trans (hb6.mono b4.size)
  replace hso1 := (hso1.below hb6).more hb6.size
  simp only [List.length_nil]
  have q0 : ((e0 : Int) != 0) = true := by simp; omega
  have bF := balloc (Below.refl w6.heap.size w6) (.cells #[.int .i64 0, .int .u32 0, .int .i64 0, .int .i64 0, .slice A6 0 c6] 47)
  have hF := At.new w6 47 #[.int .i64 0, .int .u32 0, .int .i64 0, .int .i64 0, .slice A6 0 c6]
  replace hso1 := (hso1.below bF).more bF.size
  have b7 := b6.trans (bF.mono b6.size)
  clear b6 hb6 bF
  have a0 := hF.c 0 rfl
  have a1 := hF.c 1 rfl
  have a2 := hF.c 2 rfl
  have a3 := hF.c 3 rfl
  have a4 := hF.c 4 rfl
  go_wp2_with fail
  generalize w6.alloc (.cells #[.int .i64 0, .int .u32 0, .int .i64 0, .int .i64 0, .slice A6 0 c6] 47) = w7 at *
  refine (Same_eq w7 0 0 0 0 [] 0 0 c6 0 A6 none (.inl rfl) (.inl rfl) rfl rfl).mono ?_
  rintro e w8 ⟨rfl, hb8⟩
  replace hso1 := (hso1.below hb8).more hb8.size
  have b8 := b7.trans (hb8.mono b7.size)
  clear a0 a1 a2 a3 a4 hb8 b7
  go_wp2_with fail
  refine (reads_any w8 (some ⟨gb, 0, none⟩) S.length cap S' 65536 hso1 HT.out.symm hso2 hso3).mono ?_
  rintro e w9 ⟨rfl, hb9⟩
  replace hso1 := (hso1.below hb9).more hb9.size
  have b9 := b8.trans (hb9.mono b8.size)
  clear hb9 b8
  go_wp2_with fail
  refine (reads_any w9 (some ⟨gb, 0, none⟩) S.length cap S' (S.length : Int) hso1 HT.out.symm hso2 hso3).mono ?_
  rintro e w10 ⟨rfl, hb10⟩
  go_wp2_with fail
  go_ret
  exact ⟨rfl, b9.trans (hb10.mono b9.size)⟩
end Go.Proofs.Ytkgmbpbbgkjidaa

