/- Digests: Sum of parts. -/
import Derived.Test.YtjbelkpmbbkhgaaDoorShU
namespace Go.Proofs.YtjbelkpmbbkhgaaDoor
open Go.RowKit Go.Proofs.YtjbelkpmbbkhgaaDoor.Sh

def sumS (ls : List (List UInt8)) : List UInt8 := (ls.foldl Hs.write new0).sum
theorem foldW_ok (ls : List (List UInt8)) {s : Hs} (hs : s.ok) : (ls.foldl Hs.write s).ok := by
  induction ls generalizing s with
  | nil => exact hs
  | cons a ls ih => exact ih (Hs.write_ok hs a)
theorem Sl.blk {w : World} {B : Nat} {A : Option Addr} {xs : List Value} (h : Sl w B A xs) : ∀ a, A = some a → xs ≠ [] → a.block < B := by
  intro a e hx
  rcases h with h | ⟨b, o, e2, hb, _, _⟩
  · exact absurd h hx
  · rw [e2] at e; cases e; exact hb
theorem sum_len (s : Hs) : s.sum.length = 32 := idOf_len _ _
set_option maxRecDepth 100000 in
set_option maxHeartbeats 1600000 in
theorem ShaSum_any (w : World) (A : Option Addr) (n c : Nat) (ls : List (List UInt8)) (hM : Mat w A ls) (h0 : n = ls.length) (hn : n ≤ 1000000) (hl : ∀ l ∈ ls, l.length ≤ 1000000) :
    Calls Tryd.prog 7 #[.slice A n c] w fun e w' => e = .returned (.agg (bv (sumS ls)).toArray) ∧ Below w.heap.size w w' := by
  have hR1 := At.new w 26 (bv z32).toArray
  have hb1 := balloc (Below.refl w.heap.size w) (.cells (bv z32).toArray 26)
  have HN := Lib.hid h0
  clear h0
  go_enter Tryd.func7, Tryd.ntmps7
  go_wp2_with (refine opVal rfl (ex_al32 rfl) ?_)
  replace hR1 : At (w.alloc (.cells (bv z32).toArray 26)) w.heap.size (bv z32) := hR1
  generalize w.alloc (.cells (bv z32).toArray 26) = w1 at *
  have hlt : w.heap.size < w1.heap.size := hR1.1
  have hgr : w.heap.size ≤ w.heap.size := Nat.le_refl _
  generalize hg2 : w.heap.size = gr at hR1 hlt ⊢
  have hgr : w.heap.size ≤ gr := by omega
  refine (New_any w1).mono ?_
  rintro e w2 ⟨rfl, hH, hb2⟩
  have hbz := hb1.trans (hb2.mono hb1.size)
  have hR2 := hR1.below hb2
  have hg1 := hb1.size
  generalize w1.heap.size = g at *
  clear hg2 hR1 hb1 hb2
  go_wp2_with fail
  go_loopw [9] (fun z9 wr => ∃ k : Nat, k ≤ n ∧ z9 = .int .i64 (k : Int) ∧ HStands wr g (g + 1) ((ls.take k).foldl Hs.write new0) ∧ At wr gr (bv z32) ∧ Below w.heap.size w wr) (fun z9 _ => n - (intOf z9).toNat)
  case atStart => exact ⟨0, by omega, rfl, by simpa using hH, hR2, hbz⟩
  case round =>
    clear hH hR2 hbz
    obtain ⟨k, hk, rfl, hH, hR, hbel⟩ := hrel
    by_cases hlt2 : k < n
    · obtain ⟨b, o, A', c', rfl, hbw, hc, hS, hle, hm⟩ := hM.at_ (k := k) (by have := HN.out; omega)
      have hstep : (ls.take (k + 1)).foldl Hs.write new0 = ((ls.take k).foldl Hs.write new0).write (ls[k]?.getD []) := by
        have hkl : k < ls.length := by have := HN.out; omega
        rw [List.take_add_one, List.foldl_append, List.getElem?_eq_getElem hkl]
        rfl
      have hlen : (ls[k]?.getD []).length ≤ 1000000 := by
        have hkl : k < ls.length := by have := HN.out; omega
        rw [List.getElem?_eq_getElem hkl]
        exact hl _ (List.getElem_mem hkl)
      have hok := foldW_ok (ls.take k) new0_ok
      generalize ls[k]?.getD [] = lk at *
      have hc2 : wr.cell? ⟨b, o + k, none⟩ = some (.slice A' lk.length c') := (hbel.cell (p := ⟨b, o + k, none⟩) hbw).trans hc
      have hd1 : (k : Int) < (n : Int) := by omega
      have hk0 : (0 : Int) ≤ (k : Int) := by omega
      have hSr : Sl wr wr.heap.size A' (bv lk) := (hS.below hbel).more hbel.size
      have hgz : ∀ a, A' = some a → lk ≠ [] → a.block ≠ g := fun a e hne => by
        have := hS.blk a e (fun h => hne (by simpa [bv] using h))
        omega
      have HST := Lib.hid hstep
      clear hc hstep
      go_wp2_with fail
      refine (Write_any wr g (g + 1) _ hH hok A' lk.length c' lk hSr hgz rfl hlen).mono ?_
      rintro e w3 ⟨rfl, hH3, hg3⟩
      have hR3 := hR.grown hg3 (by intro e; injection e with e; omega)
      have hb3 := hbel.trans (below_of_grown hg3 (fun b e => by injection e with e; omega) hbel.size)
      clear hc2 hSr hgz
      go_wp2_with fail
      go_roundw
      case rel => exact ⟨k + 1, by omega, by go_num, by rw [HST.out]; exact hH3, hR3, hb3⟩
      case measure => simp [intOf] <;> omega
    · obtain rfl : k = n := by omega
      have hall : ls.take k = ls := by rw [HN.out, List.take_length]
      rw [hall] at hH
      have hok := foldW_ok ls new0_ok
      have hs32 : (bv (ls.foldl Hs.write new0).sum).length = 32 := by rw [bv_len, sum_len]
      go_wp2_with fail
      refine (HSum_any wr g (g + 1) _ hH hok).mono ?_
      rintro e w3 ⟨rfl, hb3⟩
      have hR3 := hR.below hb3
      have hRf := hR3.putL (bv (ls.foldl Hs.write new0).sum) (by rw [hs32]; rfl)
      have hbf := below_putL (bv (ls.foldl Hs.write new0).sum) 0 (hbel.trans (hb3.mono hbel.size)) hgr
      have HF := Lib.hid (And.intro hRf (And.intro hs32 hbf))
      have HW := Lib.hid hR3
      clear hRf hbf hR hs32 hR3 hb3 hH hall
      go_wp2_with (refine opSkip rfl (ex_st32 rfl rfl rfl HW.out rfl HF.out.2.1 (bv_one _)) ?_)
      exact bodyPost_ret (results_arr32 rfl _ rfl HF.out.1 HF.out.2.1) rfl ⟨rfl, HF.out.2.2⟩
end Go.Proofs.YtjbelkpmbbkhgaaDoor

