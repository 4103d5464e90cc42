/- ShaLengths, walked. -/
import Derived.Test.YtjbelkpmbbkhgaaDoorShDg
import Derived.Test.YtjbelkpmbbkhgaaDoorShC
namespace Go.Proofs.YtjbelkpmbbkhgaaDoor
open Go.RowKit Go.Proofs.YtjbelkpmbbkhgaaDoor.Sh

theorem u8_any (V : Int) (h0 : 0 ≤ V) (h1 : V < 256) : [Value.int .u8 V] = bv [UInt8.ofNat V.toNat] := by
  simp only [bv, List.map_cons, List.map_nil, u8v, UInt8.toNat_ofNat', List.cons.injEq, and_true]
  congr 1
  omega
set_option maxRecDepth 100000 in
set_option maxHeartbeats 3200000 in
theorem ShaLengths_walk (w : World) (hG : GK w) (x : Nat) (hx : x < 256) (k : Nat) (hk : k < 256) :
    Calls Tryd.prog 5 #[.int .u8 (x : Int), .int .u8 (k : Int)] w fun e w' => e = .returned (.bool true) ∧ Below w.heap.size w w' := by
  have HN := Lib.hid hG
  clear hG
  have i0 : IntKind.i64.wrap (k : Int) = (k : Int) := by rw [IntKind.wrap_i64]; omega
  go_enter Tryd.func5, Tryd.ntmps5
  go_wp2_with fail
  refine (shknown_any w).mono ?_
  rintro e w1 ⟨rfl, hb1⟩
  have hown0 := OwnB.nil w1 w1.heap.size
  have hbs := hb1.size
  have hbase1 : w1.heap.size ≤ w1.heap.size := Nat.le_refl _
  generalize hbb : w1.heap.size = base at hown0 hbs hbase1
  replace hbase1 : base ≤ w1.heap.size := by omega
  clear hbb
  go_wp2_with fail
  go_loopw [5, 6] (fun z5 z6 wr => ∃ (j : Nat) (l : List UInt8), j ≤ k ∧ z6 = .int .i64 (j : Int) ∧ l.length = j ∧ OwnB wr base z5 l ∧ Below w.heap.size w wr ∧ base ≤ wr.heap.size) (fun _ z6 _ => k - (intOf z6).toNat)
  case atStart => exact ⟨0, [], by omega, rfl, rfl, hown0, hb1, hbase1⟩
  case round =>
    clear hb1 hown0 hbase1
    obtain ⟨j, l, hj, rfl, hl, hown, hbel, hbase⟩ := hrel
    obtain ⟨A5, c5, rfl, hcl, hcm, hsl, _, _⟩ := hown.form
    by_cases hlt : j < k
    · have hd1 : (j : Int) < (k : Int) := by omega
      have HL := Lib.hid hl
      obtain ⟨q, hq⟩ : ∃ q, q = l.length := ⟨_, rfl⟩
      rw [← hq] at hown ⊢
      have HQ := Lib.hid hq
      clear hl hq hcl hcm hsl
      have hjj : (j : Int) * (j : Int) ≤ 65025 := by
        have h1 : (j : Int) ≤ 255 := by omega
        have h0 : (0 : Int) ≤ (j : Int) := by omega
        have := Int.mul_le_mul h1 h1 h0 (by omega)
        omega
      have hjj0 : (0 : Int) ≤ (j : Int) * (j : Int) := Int.mul_nonneg (by omega) (by omega)
      go_wp2_with (at_builtin; go_loud (refine appN (xs := [.int .u8 (((x : Int) + (j : Int) * (j : Int)) % 256)]) (k := [UInt8.ofNat (((x : Int) + (j : Int) * (j : Int)) % 256).toNat]) rfl rfl hown (u8_any _ (Int.emod_nonneg _ (by omega)) (Int.emod_lt_of_pos _ (by omega))) rfl rfl rfl (by have := HL.out; simp; omega) hbase ?_); intro v7 w7 h7 hg7 hat7)
      have hb7 := hbel.trans (below_of_grown hg7 (fun b e => by have := (hown.lt b e).1; omega) hbel.size)
      have hsz7 := hg7.size
      generalize hl2 : l ++ [UInt8.ofNat (((x : Int) + (j : Int) * (j : Int)) % 256).toNat] = l2 at h7
      have hl3 : l2.length = j + 1 := by rw [← hl2, List.length_append, HL.out]; rfl
      clear hown hbel hg7 hat7 hl2
      go_wp2_with fail
      go_roundw
      case rel => exact ⟨j + 1, l2, by omega, by go_num, hl3, h7, hb7, by omega⟩
      case measure => simp [intOf] <;> omega
    · obtain rfl : j = k := by omega
      have hdl : (dgS l).length = 32 := idOf_len _ _
      have hdl2 : (dgS (l ++ l)).length = 32 := idOf_len _ _
      have hdd : sumS [l] = dgS l := by rw [sumS_flat]; simp
      have hdd2 : sumS [l, l] = dgS (l ++ l) := by rw [sumS_flat]; simp
      have hff : [l].flatten = l := by simp
      have hff2 : [l, l].flatten = l ++ l := by simp
      have hgk : GK wr := HN.out.below hbel
      obtain ⟨L, hL⟩ : ∃ L, L = l.length := ⟨_, rfl⟩
      have hsc : SlcIs wr (.slice A5 L c5) l := ⟨A5, c5, by rw [hL], hsl, hcl, hcm⟩
      have hl9 : L ≤ 255 := by omega
      have H1 := fun (W : World) (hb : Below wr.heap.size wr W) => ShaSum_any (W.alloc (.cells #[.slice A5 L c5] 24)) (some ⟨W.heap.size, 0, none⟩) 1 1 [l] (Mat.one W 24 _ l (hsc.below hb)) rfl (by omega) (by simp; omega)
      have H2 := fun (W : World) (hb : Below wr.heap.size wr W) => Digest_any (W.alloc (.cells #[.slice A5 L c5] 24)) ((hgk.below hb).below (balloc (Below.refl _ _) _)) (some ⟨W.heap.size, 0, none⟩) 1 1 [l] (Mat.one W 24 _ l (hsc.below hb)) rfl (by omega) (by simp; omega)
      have H3 := fun (W : World) (hb : Below wr.heap.size wr W) => ShaSum_any (W.alloc (.cells #[.slice A5 L c5, .slice A5 L c5] 24)) (some ⟨W.heap.size, 0, none⟩) 2 2 [l, l] (Mat.two W 24 _ _ l l (hsc.below hb) (hsc.below hb)) rfl (by omega) (by simp; omega)
      have H4 := fun (W : World) (hb : Below wr.heap.size wr W) => Digest_any (W.alloc (.cells #[.slice A5 L c5, .slice A5 L c5] 24)) ((hgk.below hb).below (balloc (Below.refl _ _) _)) (some ⟨W.heap.size, 0, none⟩) 2 2 [l, l] (Mat.two W 24 _ _ l l (hsc.below hb) (hsc.below hb)) rfl (by omega) (by simp; omega)
      simp only [hdd, hdd2, hff, hff2] at H1 H2 H3 H4
      rw [← hL]
      generalize dgS l = D at *
      generalize dgS (l ++ l) = D2 at *
      have HH := Lib.hid (And.intro H1 (And.intro H2 (And.intro H3 (And.intro H4 (And.intro hdl hdl2)))))
      clear H1 H2 H3 H4 hdl hdl2 hdd hdd2 hff hff2 hgk hsc hown hl hL hsl hcl hcm
      have hk0 := Below.refl wr.heap.size wr
      go_wp2_with fail
      refine (HH.out.1 wr hk0).mono ?_
      rintro e w2 ⟨rfl, hb2⟩
      have hk2 : Below wr.heap.size wr w2 := (balloc (Below.refl _ _) _).trans (hb2.mono (by simp))
      go_wp2_with fail
      refine (HH.out.2.1 w2 hk2).mono ?_
      rintro e w3 ⟨rfl, hb3⟩
      have hk3 : Below wr.heap.size wr w3 := (hk2.alloc hk2.size _).trans (hb3.mono (by have := hk2.size; simp; omega))
      go_wp2_with (refine opVal rfl (ex_eq32t rfl rfl rfl HH.out.2.2.2.2.1) ?_)
      refine (HH.out.2.2.1 w3 hk3).mono ?_
      rintro e w4 ⟨rfl, hb4⟩
      have hk4 : Below wr.heap.size wr w4 := (hk3.alloc hk3.size _).trans (hb4.mono (by have := hk3.size; simp; omega))
      go_wp2_with fail
      refine (HH.out.2.2.2.1 w4 hk4).mono ?_
      rintro e w5 ⟨rfl, hb5⟩
      have hk5 : Below wr.heap.size wr w5 := (hk4.alloc hk4.size _).trans (hb5.mono (by have := hk4.size; simp; omega))
      have hfin := hbel.trans (hk5.mono hbel.size)
      go_wp2_with (refine opValG rfl (ex_eq32t rfl rfl rfl HH.out.2.2.2.2.2) ?_)
      go_ret
      exact ⟨rfl, hfin⟩
end Go.Proofs.YtjbelkpmbbkhgaaDoor

