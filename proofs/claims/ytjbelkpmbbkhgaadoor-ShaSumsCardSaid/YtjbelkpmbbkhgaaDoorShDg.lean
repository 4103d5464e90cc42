/- Digests: the document's digest, walked. -/
import Derived.Test.YtjbelkpmbbkhgaaDoorShBk
import Derived.Test.YtjbelkpmbbkhgaaDoorPShd
namespace Go.Proofs.YtjbelkpmbbkhgaaDoor
open Go.RowKit Go.Proofs.YtjbelkpmbbkhgaaDoor.Sh Go.Proofs.YtjbelkpmbbkhgaaDoor.Pl

theorem ofNat256 (n : Nat) : UInt8.ofNat (n % 256) = UInt8.ofNat n := by
  apply UInt8.toNat_inj.1
  simp
theorem fix_be8 (X : Nat) : fixF X 8 = be8 X 8 := by
  have hr : List.range 8 = [0, 1, 2, 3, 4, 5, 6, 7] := rfl
  unfold be8
  rw [hr]
  simp only [fixF, List.map_cons, List.map_nil, ofNat256]
  try rfl
theorem mixS_take (h : List Nat) (l : List UInt8) (hl : 64 ≤ l.length) : mixS h (l.take 64) = mixS h l := by
  have := mixS_app h (l.take 64) (l.drop 64) (by rw [List.length_take]; omega)
  rw [List.take_append_drop] at this
  exact this.symm
set_option maxRecDepth 100000 in
set_option maxHeartbeats 6400000 in
theorem Digest_any (w : World) (hG : GK w) (A : Option Addr) (n c : Nat) (ls : List (List UInt8)) (hM : Mat w A ls) (h0 : n = ls.length) (hn : n ≤ 1000000) (hl : ls.flatten.length ≤ 1000000) :
    Calls Tryd.prog 8 #[.slice A n c] w fun e w' => e = .returned (.agg (bv (dgS ls.flatten)).toArray) ∧ Below w.heap.size w w' := by
  have hR1 := At.new w 26 (bv z32).toArray
  have hb1 := balloc (Below.refl w.heap.size w) (.cells (bv z32).toArray 26)
  have HN := Lib.hid (And.intro h0 (And.intro hl hG))
  obtain ⟨out, hout⟩ : ∃ out, out = dgS ls.flatten := ⟨_, rfl⟩
  rw [← hout]
  have HOUT := Lib.hid hout
  clear h0 hl hG hout
  go_enter Tryd.func8, Tryd.ntmps8
  go_wp2_with (refine opVal rfl (ex_al32 rfl) ?_)
  replace hR1 : At (w.alloc (.cells (bv z32).toArray 26)) w.heap.size (bv z32) := hR1
  generalize w.alloc (.cells (bv z32).toArray 26) = w1 at *
  have hlt : w.heap.size < w1.heap.size := hR1.1
  have hgr : w.heap.size ≤ w.heap.size := Nat.le_refl _
  generalize hg2 : w.heap.size = gr at hR1 hlt ⊢
  have hgr : w.heap.size ≤ gr := by omega
  have hbs := hb1.size
  have hown0 := OwnB.nil w1 w1.heap.size
  generalize hbb : w1.heap.size = base at hlt hbs hown0
  have hbase1 : base ≤ w1.heap.size := by omega
  clear hg2 hbb
  go_loopw [3, 4] (fun z3 z4 wr => ∃ k : Nat, k ≤ n ∧ z4 = .int .i64 (k : Int) ∧ OwnB wr base z3 ((ls.take k).flatten) ∧ At wr gr (bv z32) ∧ Below w.heap.size w wr ∧ base ≤ wr.heap.size) (fun _ z4 _ => n - (intOf z4).toNat)
  case atStart => exact ⟨0, by omega, rfl, by simpa using hown0, hR1, hb1, hbase1⟩
  case round =>
    clear hR1 hb1 hown0 hbase1
    obtain ⟨k, hk, rfl, hown, hR, hbel, hbase⟩ := hrel
    obtain ⟨A3, c3, rfl, _, _, _, _, _⟩ := hown.form
    by_cases hlt2 : k < n
    · obtain ⟨b, o, A', c', rfl, hbw, hc, hS, hle, hm⟩ := hM.at_ (k := k) (by have := HN.out.1; omega)
      have hkl : k < ls.length := by have := HN.out.1; omega
      have hstep : (ls.take (k + 1)).flatten = (ls.take k).flatten ++ ls[k]?.getD [] := by
        rw [List.take_add_one, List.flatten_append, List.getElem?_eq_getElem hkl]
        simp
      have hlen : ((ls.take k).flatten ++ ls[k]?.getD []).length ≤ 1000000 := by
        rw [← hstep]
        refine Nat.le_trans ?_ HN.out.2.1
        have h2 : ls.flatten = (ls.take (k + 1)).flatten ++ (ls.drop (k + 1)).flatten := by rw [← List.flatten_append, List.take_append_drop]
        rw [h2, List.length_append]
        omega
      rw [List.length_append] at hlen
      generalize ls[k]?.getD [] = lk at *
      generalize (ls.take k).flatten = P at *
      have hc2 : wr.cell? ⟨b, o + k, none⟩ = some (.slice A' lk.length c') := (hbel.cell (p := ⟨b, o + k, none⟩) hbw).trans hc
      have hd1 : (k : Int) < (n : Int) := by omega
      have hk0 : (0 : Int) ≤ (k : Int) := by omega
      have hSr : Sl wr wr.heap.size A' (bv lk) := (hS.below hbel).more hbel.size
      have HST := Lib.hid (And.intro hstep hlen)
      obtain ⟨q, hq⟩ : ∃ q, q = P.length := ⟨_, rfl⟩
      obtain ⟨q2, hq2⟩ : ∃ q2, q2 = lk.length := ⟨_, rfl⟩
      have HQ := Lib.hid hq2
      rw [← hq] at hown ⊢
      rw [← hq2] at hc2
      clear hc hstep hlen hS hle hq2
      go_wp2_with (at_builtin; go_loud (refine app rfl rfl hown hSr HQ.out rfl rfl (by have := HST.out.2; omega) hbase ?_); intro v7 w7 h7 hg7 hat7)
      have hR7 := hR.grown hg7 (own_above hown (by have := hlt; omega))
      have hb7 := hbel.trans (below_of_grown hg7 (fun b e => by have := (hown.lt b e).1; omega) hbel.size)
      have hsz7 := hg7.size
      rw [← HST.out.1] at h7
      clear hown hR hbel hg7 hat7 hc2 hSr
      go_wp2_with fail
      go_roundw
      case rel => exact ⟨k + 1, by omega, by go_num, h7, hR7, hb7, by omega⟩
      case measure => simp [intOf] <;> omega
    · obtain rfl : k = n := by omega
      have hall : ls.take k = ls := by rw [HN.out.1, List.take_length]
      rw [hall] at hown ⊢
      clear hall hM
      have hML := HN.out.2.1
      have hdm : digM ls.flatten = (ls.flatten ++ [128] ++ List.replicate ((119 - ls.flatten.length % 64) % 64) 0) ++ be8 (ls.flatten.length * 8 % 18446744073709551616) 8 := rfl
      have hds : out = idOf (mixK Sh.start (digM ls.flatten) ((digM ls.flatten).length / 64)) 32 := HOUT.out
      have hdl := digM_len ls.flatten
      generalize digM ls.flatten = M at *
      generalize ls.flatten = m at *
      obtain ⟨q, hq⟩ : ∃ q, q = m.length := ⟨_, rfl⟩
      rw [← hq] at hown hdm hML ⊢
      have hzz : (119 - q % 64) % 64 < 64 := Nat.mod_lt _ (by omega)
      obtain ⟨Z, hZ⟩ : ∃ Z, Z = (119 - q % 64) % 64 := ⟨_, rfl⟩
      rw [← hZ] at hdm hzz
      have hMlen : M.length = q + 1 + Z + 8 := by rw [hdm]; simp [be8_len, hq]; omega
      obtain ⟨X, hX⟩ : ∃ X, X = q * 8 := ⟨_, rfl⟩
      rw [show q * 8 % 18446744073709551616 = X by omega, ← fix_be8] at hdm
      have i6 : IntKind.u64.wrap (q : Int) = (q : Int) := by rw [IntKind.wrap_u64]; omega
      have i7 : IntKind.u64.wrap ((q : Int) * 8) = (X : Int) := by rw [IntKind.wrap_u64]; omega
      have HD := Lib.hid (And.intro hdm (And.intro hds (And.intro hdl (And.intro hMlen (And.intro hq (And.intro hZ (And.intro hML hX)))))))
      clear hdm hds hdl hMlen hq hZ hX hzz hML
      go_wp2_with (at_builtin; go_loud (refine appN (xs := [.int .u8 128]) (k := [128]) rfl rfl hown rfl rfl rfl rfl (by have := HD.out.2.2.2.2.1; have := HD.out.2.2.2.2.2.2.1; simp; omega) hbase ?_); intro v7 w7 h7 hg7 hat7)
      have hR7 := hR.grown hg7 (own_above hown (by have := hlt; omega))
      have hb7 := hbel.trans (below_of_grown hg7 (fun b e => by have := (hown.lt b e).1; omega) hbel.size)
      have hsz7 := hg7.size
      obtain ⟨A7, c7, rfl, _, _, _, _, _⟩ := h7.form
      obtain ⟨q7, hq7⟩ : ∃ q7, q7 = (m ++ [128]).length := ⟨_, rfl⟩
      rw [← hq7] at h7 ⊢
      have HQ7 := Lib.hid hq7
      clear hown hR hbel hg7 hat7 hq7
      go_wp2_with fail
      go_loopw [3] (fun z3 wr => ∃ k, k ≤ Z ∧ OwnB wr base z3 (m ++ [128] ++ List.replicate k 0) ∧ At wr gr (bv z32) ∧ Below w.heap.size w wr ∧ base ≤ wr.heap.size) (fun z3 _ => 2000000 - slN z3)
      case atStart => exact ⟨0, Nat.zero_le _, by simpa using h7, hR7, hb7, by omega⟩
      case round =>
        clear h7 hR7 hb7
        obtain ⟨k, hk, hown, hR, hbel, hbase⟩ := hrel
        obtain ⟨A5, c5, rfl, hcl, hcm, hsl, _, _⟩ := hown.form
        have hqe : (m ++ [128] ++ List.replicate k 0).length = q + 1 + k := by simp [HD.out.2.2.2.2.1]; omega
        obtain ⟨q5, hq5⟩ : ∃ q5, q5 = (m ++ [128] ++ List.replicate k 0).length := ⟨_, rfl⟩
        rw [← hq5] at hown hcl hqe ⊢
        have hZd := HD.out.2.2.2.2.2.1
        have hq6 := HD.out.2.2.2.2.2.2.1
        by_cases hltz : k < Z
        · have hq56 : q5 % 64 ≠ 56 := by omega
          have hq9 : q5 ≤ 1000100 := by omega
          have HQ := Lib.hid (And.intro hq5 (And.intro hqe hq9))
          have hc : ((q5 : Int) % 64 != 56) = true := by rw [bne_iff_ne]; omega
          clear hq9 hq5 hqe hZd hq6 hsl
          go_wp2_with (at_builtin; go_loud (refine appN (xs := [.int .u8 0]) (k := [0]) rfl rfl hown rfl rfl rfl rfl (by have := HQ.out; rw [← this.1]; simp; omega) hbase ?_); intro v7 w7 h7 hg7 hat7)
          have hR7 := hR.grown hg7 (own_above hown (by have := hlt; omega))
          have hb7 := hbel.trans (below_of_grown hg7 (fun b e => by have := (hown.lt b e).1; omega) hbel.size)
          rw [List.append_assoc, ← List.replicate_succ'] at h7
          obtain ⟨A7, c7, rfl, _, _, _, _, _⟩ := h7.form
          have hsz7 := hg7.size
          clear hown hR hbel hg7 hat7
          go_wp2_with fail
          go_roundw
          case rel => exact ⟨k + 1, by omega, h7, hR7, hb7, by omega⟩
          case measure => (simp [slN]; obtain ⟨_, h1, h2⟩ := HQ.out; have := HD.out.2.2.2.2.1; omega)
        · obtain rfl : k = Z := by omega
          have hq56 : q5 % 64 = 56 := by omega
          have hc : ((q5 : Int) % 64 != 56) = false := by rw [bne_eq_false_iff_eq]; omega
          have hdm := HD.out.1
          have hZd2 := HD.out.2
          generalize m ++ [128] ++ List.replicate k 0 = P at *
          have HQ := Lib.hid (And.intro hq5 (And.intro hqe (And.intro hdm hZd2)))
          clear hq5 hqe hk hltz hq56 HD hdm hZd2 hZd hq6 hsl
          go_wp2_with fail
          have hfx := RefFixed_any wr X 8 (by omega)
          rw [show (min (max (8 : Int) 0) 8).toNat = 8 from rfl] at hfx
          refine hfx.mono ?_
          clear hfx
          rintro e w8 ⟨A8, c8, rfl, hown8, hb8⟩
          have hF := Fresh.sl hown8
          have hfl : (fixF X 8).length = 8 := fixF_len _ _
          rw [hfl]
          have hownW := hown.below hb8
          have hRW := hR.below hb8
          have hbW := hbel.trans (hb8.mono hbel.size)
          have hszW := hb8.size
          have HF8 := Lib.hid (And.intro hF hfl)
          clear hF hfl hown hR hbel hb8 hown8
          go_wp2_with (at_builtin; go_loud (refine app rfl rfl hownW HF8.out.1.1 HF8.out.2.symm rfl rfl (by have := HQ.out; rw [← this.1, HF8.out.2]; omega) (by omega) ?_); intro v7 w7 h7 hg7 hat7)
          have hR7 := hRW.grown hg7 (own_above hownW (by have := hlt; omega))
          have hb7 := hbW.trans (below_of_grown hg7 (fun b e => by have := (hownW.lt b e).1; omega) hbW.size)
          have hsz7 := hg7.size
          rw [← HQ.out.2.2.1] at h7
          obtain ⟨A7, c7, rfl, hcl7, hcm7, hsl7, _, _⟩ := h7.form
          obtain ⟨L, hL⟩ : ∃ L, L = M.length := ⟨_, rfl⟩
          rw [← hL] at hcl7 ⊢
          have hLd : L % 64 = 0 := by rw [hL]; exact HQ.out.2.2.2.2.1
          have hLm : L ≤ 1000200 := by have h1 := HQ.out.2.2.2.2.2.1; have h2 := HQ.out.2.2.2.2.2.2.2.2.1; have h3 := HQ.out.2.2.2.2.2.2.2.1; rw [hL, h1]; omega
          have hsL := hsl7.more (Nat.le_refl _)
          have hK1 := balloc (Below.refl w7.heap.size w7) (.cells #[.int .u32 1779033703, .int .u32 3144134277, .int .u32 1013904242, .int .u32 2773480762, .int .u32 1359893119, .int .u32 2600822924, .int .u32 528734635, .int .u32 1541459225] 42)
          have hA1 := At.new w7 42 #[.int .u32 1779033703, .int .u32 3144134277, .int .u32 1013904242, .int .u32 2773480762, .int .u32 1359893119, .int .u32 2600822924, .int .u32 528734635, .int .u32 1541459225]
          have HL := Lib.hid hL
          clear hownW hRW hbW hg7 hat7 hsl7 h7 hL HF8
          go_wp2_with fail
          generalize w7.alloc _ = w8 at hA1 hK1 ⊢
          have hgh7 : w.heap.size ≤ w7.heap.size := hb7.size
          have hrl : gr < w7.heap.size := hR7.1
          generalize hghe : w7.heap.size = gh at *
          replace hA1 : At w8 gh (u32s (mixK Sh.start M 0)) := hA1
          go_loopw [7] (fun z7 wr => ∃ j lo : Nat, lo = 64 * j ∧ j ≤ L / 64 ∧ z7 = .int .i64 (lo : Int) ∧ At wr gh (u32s (mixK Sh.start M j)) ∧ Below gh w7 wr) (fun z7 _ => L - (intOf z7).toNat)
          case atStart => exact ⟨0, 0, by omega, by omega, rfl, hA1, hK1⟩
          case round =>
            clear hA1 hK1
            obtain ⟨j, lo, hlo, hj, rfl, hA, hK⟩ := hrel
            by_cases hltj : lo < L
            · have hjl : j < L / 64 := by omega
              have hKok := mixK_ok (new0_ok).1 M j
              have hstep : mixK Sh.start M (j + 1) = mixS (mixK Sh.start M j) (M.drop (64 * j)) := rfl
              have hdl : 64 ≤ (M.drop (64 * j)).length := by rw [List.length_drop, ← HL.out]; omega
              rw [← mixS_take _ _ hdl] at hstep
              have htl : ((M.drop (64 * j)).take 64).length = 64 := by rw [List.length_take]; omega
              have hSr := (hsL.below hK)
              have hcut := (hSr.cut lo c7 (by rw [bv_len, ← HL.out]; omega)).tk 64
              have hclo : ¬ c7 = lo := by omega
              rw [if_neg hclo, bv_drop, bv_take, hlo] at hcut
              rw [← hlo] at hcut hstep htl hdl
              have hcut2 := hcut.more (hghe ▸ hK.size)
              generalize (M.drop lo).take 64 = bk at *
              have hKok' : Ok8 (mixK Sh.start M j) := hKok
              generalize mixK Sh.start M j = hk8 at *
              obtain ⟨hi, hhi⟩ : ∃ hi, hi = lo + 64 := ⟨_, rfl⟩
              have i1 : IntKind.i64.wrap ((lo : Int) + 64) = (hi : Int) := by rw [IntKind.wrap_i64]; omega
              have l0 : (lo : Int) ≤ (hi : Int) := by omega
              have l1 : (hi : Int) ≤ (c7 : Int) := by omega
              have l2 : (hi : Int) ≤ (L : Int) := by omega
              have l3 : (0 : Int) ≤ (lo : Int) := by omega
              have h64 : hi - lo = 64 := by omega
              have hGK : GK wr := (HN.out.2.2.below hb7).below (by rw [hghe]; exact hK)
              have hS0 : KB #[] wr.drew := kb0 _
              have hAd := hA.drew
              have hKd := hK.drew
              have hGd : GK wr.drew := hGK
              have hcd : Sl wr.drew wr.drew.heap.size (A7.map (·.add lo)) (bv bk) := hcut2
              have HBK := Lib.hid (block_any wr.drew hGd _ (c7 - lo) hk8 hKok' bk hcd htl (by omega) (by omega))
              have hmok := mixS_ok hKok' bk
              have HST := Lib.hid (And.intro hstep (And.intro (show (u32s hk8).length = 8 by rw [u32s_len, hKok'.1]) (And.intro (show (u32s (mixS hk8 bk)).length = 8 by rw [u32s_len, hmok.1]) (u32s_one (mixS hk8 bk)))))
              generalize mixS hk8 bk = nk8 at *
              have HLO := Lib.hid (And.intro hlo hhi)
              clear hlo hhi
              clear hA hK hcut hcut2 hSr hGK hGd hcd hstep htl hdl hKok hKok' hmok
              go_wp2_with fail
              refine bstartH (#[]) (by kernel_rfl) ?_
              refine btake 1 (oi := _) (v := ?_) (by simp only [List.getElem?_toArray, List.getElem?_cons_succ, List.getElem?_cons_zero]; rfl) (by kernel_rfl) (by exact fun _ _ _ h => h) (by first | assumption | exact KB.refl _) (.inl ⟨by rfl, fun W hW => ?_⟩) ?_; rotate_left
              · (go_simp; first | done | with_reducible rfl)
              try simp only [Act.put, List.setIfInBounds_toArray, List.set_cons_zero, List.set_cons_succ]
              refine btake 2 (oi := _) (v := ?_) (by simp only [List.getElem?_toArray, List.getElem?_cons_succ, List.getElem?_cons_zero]; rfl) (by kernel_rfl) (by exact fun _ _ _ h => h) (by first | assumption | exact KB.refl _) (.inl ⟨by rfl, fun W hW => ?_⟩) ?_; rotate_left
              · (go_simp; first | done | with_reducible rfl)
              try simp only [Act.put, List.setIfInBounds_toArray, List.set_cons_zero, List.set_cons_succ]
              refine btake 3 (oi := _) (v := ?_) (by simp only [List.getElem?_toArray, List.getElem?_cons_succ, List.getElem?_cons_zero]; rfl) (by kernel_rfl) (by exact fun _ _ _ h => h) (by first | assumption | exact KB.refl _) (.inl ⟨by rfl, fun W hW => ?_⟩) ?_; rotate_left
              · (go_simp; first | done | with_reducible rfl)
              try simp only [Act.put, List.setIfInBounds_toArray, List.set_cons_zero, List.set_cons_succ]
              refine btake 4 (oi := _) (v := ?_) (by simp only [List.getElem?_toArray, List.getElem?_cons_succ, List.getElem?_cons_zero]; rfl) (by kernel_rfl) (by exact fun _ _ _ h => h) (by first | assumption | exact KB.refl _) (.inl ⟨by rfl, fun W hW => ?_⟩) ?_; rotate_left
              · (go_simp; first | done | with_reducible rfl)
              try simp only [Act.put, List.setIfInBounds_toArray, List.set_cons_zero, List.set_cons_succ]
              refine btake 5 (oi := _) (v := ?_) (by simp only [List.getElem?_toArray, List.getElem?_cons_succ, List.getElem?_cons_zero]; rfl) (by kernel_rfl) (by exact fun _ _ _ h => h) (by first | assumption | exact KB.refl _) (.inl ⟨by rfl, fun W hW => ?_⟩) ?_; rotate_left
              · (go_simp; first | done | with_reducible rfl)
              try simp only [Act.put, List.setIfInBounds_toArray, List.set_cons_zero, List.set_cons_succ]
              -- 0: Op.load 42 (Operand.tmp 6)
              refine bopH 0 (o := _) (by simp only [List.getElem?_toArray, List.getElem?_cons_zero]; rfl) (by kernel_rfl) (by first | assumption | exact KB.refl _) (by rfl) (fun K hK => ?_)
              refine wpVal (ex_ld8 rfl rfl hAd HST.out.2.1) ?_
              have hkb := hS0
              refine hK.out _ _ hkb ?_; clear hK K
              try simp only [Act.put, List.setIfInBounds_toArray, List.set_cons_zero, List.set_cons_succ]
              -- 6: newsreel/newsreelref1.block
              refine bopH 6 (o := _) (by simp only [List.getElem?_toArray, List.getElem?_cons_succ, List.getElem?_cons_zero]; rfl) (by kernel_rfl) (by first | assumption | exact KB.refl _) (by rfl) (fun K hK => ?_)
              go_simp
              refine HBK.out.mono ?_
              rintro e w5 ⟨rfl, hb5⟩
              have hA5 := hAd.below hb5
              have hK5 := hKd.trans (hb5.mono (by have := hAd.1; omega))
              have hkb : KB #[] w5 := kb0 _
              clear hAd hKd HBK hb5
              refine hK.out _ _ hkb ?_; clear hK K
              try simp only [Act.put, List.setIfInBounds_toArray, List.set_cons_zero, List.set_cons_succ]
              -- 7: Op.store 42 (Operand.tmp 6) (Operand.tmp 53)
              refine bopH 7 (o := _) (by simp only [List.getElem?_toArray, List.getElem?_cons_succ, List.getElem?_cons_zero]; rfl) (by kernel_rfl) (by first | assumption | exact KB.refl _) (by rfl) (fun K hK => ?_)
              refine wpSkip (w' := putL w5 gh 0 (u32s nk8)) (ex_st8 (us := u32s nk8) (old := u32s hk8) rfl rfl rfl hA5 HST.out.2.1 HST.out.2.2.1 HST.out.2.2.2) ?_
              have hA6 := hA5.putL (u32s nk8) (by rw [HST.out.2.1, HST.out.2.2.1])
              have hK6 := below_putL (u32s nk8) 0 hK5 (Nat.le_refl _)
              have hkb : KB #[] (putL w5 gh 0 (u32s nk8)) := kb0 _
              clear hA5 hK5
              generalize putL w5 gh 0 (u32s nk8) = w6 at *
              refine hK.out _ _ hkb ?_; clear hK K
              try simp only [Act.put]
              refine bdone (by kernel_rfl) ?_
              go_wp2_with fail
              go_roundw
              case rel => exact ⟨j + 1, hi, by have := HLO.out; omega, by omega, by go_num, by rw [HST.out.1]; exact hA6, hK6⟩
              case measure => (have := HLO.out; simp [intOf] <;> omega)
            · obtain rfl : lo = L := by omega
              have hjq : j = lo / 64 := by omega
              have hoe : out = idOf (mixK Sh.start M j) 32 := by rw [hjq, HL.out]; exact HQ.out.2.2.2.1
              have hKok : Ok8 (mixK Sh.start M j) := mixK_ok (new0_ok).1 M j
              have hRr : At wr gr (bv z32) := hR7.belowB hrl hK (by have := hK.size; exact this)
              have hbr := hb7.trans (hK.mono hgh7)
              generalize mixK Sh.start M j = hk8 at *
              have HOE := Lib.hid hoe
              clear hlo hj hjq hoe hK hR7 hb7 hsL HN HOUT hltj HQ HL hcl7 hcm7 hLd hLm
              have hO0 := At.new wr 26 (bv z32).toArray
              have hAg := hA.alloc (.cells (bv z32).toArray 26)
              have hRg := hRr.alloc (.cells (bv z32).toArray 26)
              have hbg := balloc hbr (.cells (bv z32).toArray 26)
              replace hO0 : At (wr.alloc (.cells (bv z32).toArray 26)) wr.heap.size (bv (idOf hk8 0 ++ List.replicate (32 - 0) 0)) := hO0
              have noh : wr.heap.size ≠ gh := by have := hA.1; omega
              have nor : wr.heap.size ≠ gr := by have := hRr.1; omega
              have hgo9 := hbr.size
              clear hA hRr hbr
              go_wp2_with (refine opVal rfl (ex_al32 rfl) ?_)
              generalize wr.alloc (.cells (bv z32).toArray 26) = w9 at *
              generalize wr.heap.size = go at *
              go_loopw [9] (fun z9 wr => ∃ k : Nat, k ≤ 32 ∧ z9 = .int .i64 (k : Int) ∧ At wr gh (u32s hk8) ∧ At wr gr (bv z32) ∧ At wr go (bv (idOf hk8 k ++ List.replicate (32 - k) 0)) ∧ Below w.heap.size w wr) (fun z9 _ => 32 - (intOf z9).toNat)
              case atStart => exact ⟨0, by omega, rfl, hAg, hRg, hO0, hbg⟩
              case round =>
                clear hAg hRg hO0 hbg
                obtain ⟨k, hk, rfl, hV, hR, hO, hbel⟩ := hrel
                by_cases hlt : k < 32
                · obtain ⟨a, ha⟩ : ∃ a, a = k / 4 := ⟨_, rfl⟩
                  obtain ⟨sh, hsh⟩ : ∃ sh, sh = 24 - 8 * (k % 4) := ⟨_, rfl⟩
                  have ha8 : a < 8 := by omega
                  have hv := hV.c a (u32s_get hk8 a (by rw [hKok.1]; exact ha8))
                  have hvl := at'_lt hKok.2 a
                  have hstep := idOf_succ hk8 k
                  rw [← ha, ← hsh] at hstep
                  generalize at' hk8 a = y at *
                  have q1 : (k : Int) / 4 = (a : Int) := by omega
                  have q2' : 24 - 8 * ((k : Int) % 4) = (sh : Int) := by omega
                  have hs0 : (0 : Int) ≤ (sh : Int) := by omega
                  have hgc : (bv (idOf hk8 k ++ List.replicate (32 - k) 0))[k]? = some (.int .u8 0) := by
                    rw [bv_get _ _ (by rw [List.length_append, idOf_len, List.length_replicate]; omega), List.getElem?_append_right (by rw [idOf_len]; omega), idOf_len, Nat.sub_self, List.getElem?_replicate, if_pos (by omega)]
                    rfl
                  have hcO := hO.c k hgc
                  have hfO := hO.f k hgc
                  have hst := hO.set k (.int .u8 ((y / 2 ^ sh % 256 : Nat) : Int)) (by rw [bv_len, List.length_append, idOf_len, List.length_replicate]; omega)
                  have hset : (bv (idOf hk8 k ++ List.replicate (32 - k) 0)).set k (.int .u8 ((y / 2 ^ sh % 256 : Nat) : Int)) = bv (idOf hk8 (k + 1) ++ List.replicate (32 - (k + 1)) 0) := by
                    rw [bv_set _ _ _ (Nat.mod_lt _ (by omega)), List.set_append, if_neg (by rw [idOf_len]; omega), idOf_len, Nat.sub_self, hstep, show 32 - k = (32 - (k + 1)) + 1 by omega, List.replicate_succ, List.set_cons_zero, List.append_assoc]
                    rfl
                  rw [hset] at hst
                  have hV2 := hV.set_other k (.int .u8 ((y / 2 ^ sh % 256 : Nat) : Int)) noh
                  have hR2 := hR.set_other k (.int .u8 ((y / 2 ^ sh % 256 : Nat) : Int)) nor
                  have hb2 := hbel.setCell (p := ⟨go, k, none⟩) hgo9 (.int .u8 ((y / 2 ^ sh % 256 : Nat) : Int))
                  have hy : (y : Int) / 2 ^ min sh 32 % 256 = ((y / 2 ^ sh % 256 : Nat) : Int) := by rw [show min sh 32 = sh by omega]; push_cast; rfl
                  have hE : ((y / 2 ^ sh % 256 : Nat) : Int) = (y : Int) / 2 ^ sh % 256 := by push_cast; rfl
                  rw [hE] at hst hV2 hR2 hb2
                  clear hstep hset hgc hO hV hR hbel ha hsh
                  go_wp2_with fail
                  go_roundw
                  case rel => exact ⟨k + 1, by omega, by go_num, hV2, hR2, hst, hb2⟩
                  case measure => simp [intOf] <;> omega
                · obtain rfl : k = 32 := by omega
                  rw [show (((32 : Nat)) : Int) = (32 : Int) from rfl]
                  have hfin : idOf hk8 32 ++ List.replicate (32 - 32) 0 = idOf hk8 32 := by simp
                  rw [hfin, ← HOE.out] at hO
                  have ho32 : (bv out).length = 32 := by rw [bv_len, HOE.out, idOf_len]
                  have hRf := hR.putL (bv out) (by rw [ho32]; rfl)
                  have hbf := below_putL (bv out) 0 hbel hgr
                  have HF := Lib.hid (And.intro hRf (And.intro ho32 hbf))
                  have HW := Lib.hid (And.intro hO hR)
                  clear hRf hbf hO hR hV hfin ho32
                  go_wp2_with (first
                    | (refine opVal rfl (ex_ld32 rfl rfl HW.out.1 HF.out.2.1) ?_)
                    | (refine opSkip rfl (ex_st32 rfl rfl rfl HW.out.2 rfl HF.out.2.1 (bv_one _)) ?_))
                  exact bodyPost_ret (results_arr32 rfl _ rfl HF.out.1 HF.out.2.1) rfl ⟨rfl, HF.out.2.2⟩
end Go.Proofs.YtjbelkpmbbkhgaaDoor

