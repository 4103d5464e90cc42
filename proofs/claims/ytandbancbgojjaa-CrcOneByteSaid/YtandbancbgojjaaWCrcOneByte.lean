/- 'CrcOneByte': the walk of the law. -/
import Derived.Test.YtandbancbgojjaaCrcB
namespace Go.Proofs.Ytandbancbgojjaa
open Go.RowKit Go.Proofs.Ytandbancbgojjaa.Pc Go.Proofs.Ytandbancbgojjaa.Pl

set_option maxRecDepth 100000 in
set_option maxHeartbeats 1600000 in
theorem CrcOneByte_walk (w : World) (A : Option Addr) (c : Nat) (l : List UInt8) (hb : Sl w w.heap.size A (bv l)) (hc : l.length ≤ c) (hm : c ≤ 140737488351232) (a : Int) (ha : -9223372036854775808 ≤ a ∧ a ≤ 9223372036854775807) (x : Nat) (hx : x < 256) :
    Calls Try.prog 7 #[.slice A l.length c, .int .i64 a, .int .u8 (x : Int)] w fun e w' => e = .returned (.bool true) ∧ Below w.heap.size w w' := by
  obtain ⟨ha1, ha2⟩ := ha
  by_cases hx0 : x = 0
  · subst hx0
    go_enter Try.func7, Try.ntmps7
    go_wp2_with fail
    refine (known_any w).mono ?_
    rintro e w1 ⟨rfl, hb1⟩
    go_wp2_with fail
    go_ret
    exact ⟨rfl, hb1⟩
  · have hxi : ((x : Int) == 0) = false := by simp; omega
    have hxd : decide ((x : Int) = 0) = false := by simp; omega
    have hlen := sealS_len l
    have hopen := fun k hk => open_one l k hk (UInt8.ofNat x) (by intro e; have := congrArg UInt8.toNat e; simp at this; omega)
    obtain ⟨S, hS⟩ : ∃ S, sealS l = S := ⟨_, rfl⟩
    have HS := Lib.hid hS
    rw [hS] at hlen
    have HL := Lib.hid hlen
    have HO := Lib.hid hopen
    clear hlen hS hopen
    go_enter Try.func7, Try.ntmps7
    go_wp2_with fail
    refine (known_any w).mono ?_
    rintro e w1 ⟨rfl, hb1⟩
    have hbl := (hb.below hb1).more hb1.size
    go_wp2_with fail
    have hseal := Seal_any w1 A l.length c l hbl rfl hc (by simp only [maxLen]; omega) (by omega)
    rw [HS.out] at hseal
    refine hseal.mono ?_
    clear hseal
    rintro e w2 ⟨A2, c2, rfl, hown2, hb2⟩
    have hs2 := Fresh.sl hown2
    have hb2' := bstep hb1 hb2
    have hSl : S.length ≤ 140737488355328 := by have := HL.out; omega
    go_wp2_with (at_builtin; refine app rfl rfl (OwnB.nil w2 w2.heap.size) hs2.1 rfl rfl rfl (by simpa using hSl) (Nat.le_refl _) ?_; intro s3 w3 hown3 hg3 hat3)
    have hb3 : Below w2.heap.size w2 w3 := below_of_grown hg3 (by simp [Value.ownBlock]) (Nat.le_refl _)
    rw [List.nil_append] at hown3
    have hb3' := bstep hb2' hb3
    obtain ⟨g, cap, rfl, hg, hgw, hcap, hcapm⟩ := hown3.head (by have := HL.out; omega)
    have hsz2 : w.heap.size ≤ w2.heap.size := hb2'.size
    clear hat3 hg3 hb2 hb3 hb2' hbl hown2 hs2 hb1
    have hlenf := run_len_slice (P := Try.prog) (w := w3) 24 3 (some ⟨g, 0, none⟩) S.length cap Try.underlying24
    go_wp2_with fail
    rw [hlenf]
    clear hlenf
    have hLd : ((S.length : Int) != ((l.length : Int) + 4)) = false := by have := HL.out; simp; omega
    have hSpos : 0 < S.length := by have := HL.out; omega
    go_wp2_with fail
    refine (Place_any w3 a S.length hSpos hSl ha1 ha2).mono ?_
    rintro e w4 ⟨k, hk, rfl, rfl⟩
    have hxu : (x : Int) = ((UInt8.ofNat x).toNat : Int) := by simp only [UInt8.toNat_ofNat']; omega
    have HU := Lib.hid hxu
    have hxor : bits .xor .u8 ((S[k]?.getD 0).toNat : Int) (x : Int) = ((S[k]?.getD 0 ^^^ UInt8.ofNat x).toNat : Int) := by rw [HU.out, xor_u8]
    have hno := HO.out k (by rw [HS.out]; exact hk)
    rw [HS.out] at hno
    obtain ⟨hcell, hfz, hst, hgr⟩ := hown3.store k (S[k]?.getD 0 ^^^ UInt8.ofNat x).toNat hk (UInt8.toNat_lt _)
    rw [UInt8.ofNat_toNat] at hst
    have hck : (k : Int) ≤ (cap : Int) := by omega
    clear hxu
    generalize S[k]?.getD 0 ^^^ UInt8.ofNat x = z at *
    generalize S[k]?.getD 0 = y at *
    have hbst := below_of_grown hgr (B := w2.heap.size) (fun g' e => by cases e; exact hg) (by omega)
    go_wp2_with fail
    have hTl : (S.set k z).length = S.length := by simp
    have hso := OwnB.sl (l := S.set k z) (by rw [hTl]; exact hst)
    rw [hTl] at hso
    have hop := Open_any _ (some ⟨g, 0, none⟩) S.length cap (S.set k z) hso.1 hTl.symm hso.2.1 hso.2.2 (by omega)
    rw [hno] at hop
    refine hop.mono ?_
    clear hop
    rintro e w5 ⟨rfl, hb5⟩
    have hb4' : Below w.heap.size w (w4.setCell ⟨g, k, none⟩ (.int .u8 (z.toNat : Int))) := hb3'.trans (hbst.mono hsz2)
    have hb5' := bstep hb4' hb5
    go_wp2_with fail
    go_ret
    exact ⟨rfl, hb5'⟩
end Go.Proofs.Ytandbancbgojjaa

