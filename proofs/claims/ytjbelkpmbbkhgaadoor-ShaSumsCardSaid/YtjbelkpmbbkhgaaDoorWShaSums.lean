/- ShaSums, walked. -/
import Derived.Test.YtjbelkpmbbkhgaaDoorShDg
import Derived.Test.YtjbelkpmbbkhgaaDoorShZ
namespace Go.Proofs.YtjbelkpmbbkhgaaDoor
open Go.RowKit Go.Proofs.YtjbelkpmbbkhgaaDoor.Sh

def accT (ls : List (List UInt8)) : Nat := (ls.map fun l => min l.length 2000).sum
theorem accT_succ (ls : List (List UInt8)) (k : Nat) (h : k < ls.length) : accT (ls.take (k + 1)) = accT (ls.take k) + min (ls[k]?.getD []).length 2000 := by
  unfold accT
  rw [List.take_add_one, List.map_append, List.sum_append, List.getElem?_eq_getElem h]
  simp
theorem accT_flat : ∀ ls : List (List UInt8), accT ls ≤ 1000 → ls.flatten.length = accT ls ∧ ∀ l ∈ ls, l.length ≤ 1000
  | [], _ => ⟨rfl, fun l h => by simp at h⟩
  | a :: ls, h => by
    have e : accT (a :: ls) = min a.length 2000 + accT ls := by simp [accT]
    obtain ⟨h1, h2⟩ := accT_flat ls (by omega)
    refine ⟨by rw [List.flatten_cons, List.length_append, h1, e]; omega, fun l hl => ?_⟩
    rcases List.mem_cons.1 hl with rfl | hl
    · omega
    · exact h2 l hl
set_option maxRecDepth 100000 in
set_option maxHeartbeats 3200000 in
theorem ShaSums_walk (w : World) (hG : GK w) (A : Option Addr) (c : Nat) (ls : List (List UInt8)) (hM : Mat w A ls) (hc : ls.length ≤ c) (hcm : c ≤ maxLen) :
    Calls Tryd.prog 3 #[.slice A ls.length c] w fun e w' => e = .returned (.bool true) ∧ Below w.heap.size w w' := by
  obtain ⟨n, hn⟩ : ∃ n, n = ls.length := ⟨_, rfl⟩
  rw [← hn] at hc ⊢
  unfold maxLen at hcm
  have HN := Lib.hid (And.intro hn hG)
  clear hn hG
  go_enter Tryd.func3, Tryd.ntmps3
  go_wp2_with fail
  refine (shknown_any w).mono ?_
  rintro e w1 ⟨rfl, hb1⟩
  go_wp2_with fail
  go_loopw [3, 4] (fun z3 z4 wr => ∃ k a : Nat, k ≤ n ∧ z4 = .int .i64 (k : Int) ∧ z3 = .int .i64 (a : Int) ∧ a = accT (ls.take k) ∧ a ≤ 3000 ∧ Below w.heap.size w wr) (fun _ z4 _ => n - (intOf z4).toNat)
  case atStart => exact ⟨0, 0, by omega, rfl, rfl, rfl, by omega, hb1⟩
  case round =>
    clear hb1
    obtain ⟨k, a, hk, rfl, rfl, ha, ha3, hbel⟩ := hrel
    by_cases hlt : k < n
    · by_cases ha1 : a ≤ 1000
      · obtain ⟨b, o, A', c', rfl, hbw, hc0, hS, hle, hm⟩ := hM.at_ (k := k) (by have := HN.out.1; omega)
        have hkl : k < ls.length := by have := HN.out.1; omega
        have hstep := accT_succ ls k hkl
        rw [← ha] at hstep
        have hc2 := (hbel.cell (p := ⟨b, o + k, none⟩) hbw).trans hc0
        generalize (ls[k]?.getD []).length = q at *
        have hd1 : (k : Int) < (n : Int) := by omega
        have hd2 : (a : Int) ≤ 1000 := by omega
        have hk0 : (0 : Int) ≤ (k : Int) := by omega
        obtain ⟨mq, hmq⟩ : ∃ mq, mq = min q 2000 := ⟨_, rfl⟩
        rw [← hmq] at hstep
        have hmI : (if (2000 : Int) < (q : Int) then 2000 else (q : Int)) = (mq : Int) := by split <;> omega
        obtain ⟨a2, ha2⟩ : ∃ a2, a2 = a + mq := ⟨_, rfl⟩
        have hmq2 : mq ≤ 2000 := by omega
        have HST := Lib.hid (And.intro hstep (And.intro ha2 hmq))
        clear hstep ha hc0 hS hle hm ha2 hmq
        go_wp2_with fail
        go_roundw
        case rel => exact ⟨k + 1, a2, by omega, by go_num, by (have := HST.out; congr 1; omega), by rw [HST.out.1]; exact HST.out.2.1, by have := HST.out; omega, hbel⟩
        case measure => simp [intOf] <;> omega
      · have hd1 : (k : Int) < (n : Int) := by omega
        have hd2 : ¬ (a : Int) ≤ 1000 := by omega
        have hd3 : (1000 : Int) < (a : Int) := by omega
        clear ha
        go_wp2_with fail
        go_ret
        exact ⟨rfl, hbel⟩
    · obtain rfl : k = n := by omega
      have hall : ls.take k = ls := by rw [HN.out.1, List.take_length]
      rw [hall] at ha
      by_cases ha1 : a ≤ 1000
      · have hd2 : ¬ (1000 : Int) < (a : Int) := by omega
        by_cases h100 : k ≤ 100
        · have hd3 : ¬ (100 : Int) < (k : Int) := by omega
          obtain ⟨hfl, hls⟩ := accT_flat ls (by omega)
          have hMr := hM.below hbel
          have hsm := fun W (hW : Mat W A ls) => ShaSum_any W A k c ls hW HN.out.1 (by omega) (fun l hl => by have := hls l hl; omega)
          have hdg := fun W (hW : Mat W A ls) (hg : GK W) => Digest_any W hg A k c ls hW HN.out.1 (by omega) (by omega)
          rw [sumS_flat] at hsm
          have hdl : (dgS ls.flatten).length = 32 := idOf_len _ _
          generalize dgS ls.flatten = D at *
          have HS := Lib.hid (And.intro hsm (And.intro hdg hdl))
          clear hsm hdg ha hfl hls hdl hall
          go_wp2_with fail
          refine (HS.out.1 wr hMr).mono ?_
          rintro e w2 ⟨rfl, hb2⟩
          have hM2 := hMr.below hb2
          have hb2' := hbel.trans (hb2.mono hbel.size)
          go_wp2_with fail
          refine (HS.out.2.1 w2 hM2 (HN.out.2.below hb2')).mono ?_
          rintro e w3 ⟨rfl, hb3⟩
          have hb3' := hb2'.trans (hb3.mono hb2'.size)
          go_wp2_with (refine opVal rfl (ex_eq32t rfl rfl rfl HS.out.2.2) ?_)
          go_ret
          exact ⟨rfl, hb3'⟩
        · have hd3 : (100 : Int) < (k : Int) := by omega
          clear ha hall
          go_wp2_with fail
          go_ret
          exact ⟨rfl, hbel⟩
      · have hd3 : (1000 : Int) < (a : Int) := by omega
        clear ha hall
        go_wp2_with fail
        go_ret
        exact ⟨rfl, hbel⟩
end Go.Proofs.YtjbelkpmbbkhgaaDoor

