/- Ranges: all, one list of ranges out of whatever ranges. -/
import Derived.Test.YtdpkmabojlihmaaRgP
import Derived.Test.YtdpkmabojlihmaaRgS
namespace Go.Proofs.Ytdpkmabojlihmaa
open Go.RowKit Go.Proofs.Ytdpkmabojlihmaa.Pl Go.Proofs.Ytdpkmabojlihmaa.Sp

theorem putR_len (o : List Rg) (r : Rg) : (putR o r).length ≤ o.length + 1 := by
  unfold putR
  split
  · simp
  · rename_i x h
    have : o.length ≠ 0 := by intro e; rw [List.eq_nil_of_length_eq_zero e] at h; cases h
    split
    · rw [List.length_append, List.length_dropLast, List.length_singleton]; omega
    · simp
theorem fold_len : ∀ (l o : List Rg), (l.foldl putR o).length ≤ o.length + l.length
  | [], o => by simp
  | r :: l, o => by
    have h1 := fold_len l (putR o r)
    have h2 := putR_len o r
    rw [List.foldl_cons, List.length_cons]
    omega
theorem last_okR {o : List Rg} (h : right o = true) : ∀ x, o.getLast? = some x → 1 ≤ x.b ∧ x.b ≤ 1099511627775 := by
  intro x hx
  have h1 := ok_iff.1 (right_ok h x (List.mem_of_getLast? hx))
  unfold mx at h1
  omega
theorem fold_take_ok {l : List Rg} (hok : ∀ r ∈ l, r.ok = true) (hp : l.Pairwise fun r s => r.a ≤ s.a) (k : Nat) : right ((l.take k).foldl putR []) = true :=
  (fold_put (o := []) rfl (fun r hr => hok r (List.mem_of_mem_take hr)) (hp.sublist (List.take_sublist k l)) (fun x hx => by cases hx)).1
theorem fold_take_succ {l : List Rg} {k : Nat} (hk : k < l.length) : (l.take (k + 1)).foldl putR [] = putR ((l.take k).foldl putR []) (l[k]?.getD ⟨0, 0⟩) := by
  rw [List.take_succ_eq_append_getElem hk, List.foldl_append, List.getElem?_eq_getElem hk]
  rfl
/-- a row of ranges of the call's own is answered -/
def OwnAns (w : World) (q : List Rg) (e : Ending) (w' : World) : Prop := ∃ v, e = .returned v ∧ OwnR w' w.heap.size v q ∧ Below w.heap.size w w'
set_option maxRecDepth 100000 in
set_option maxHeartbeats 3200000 in
theorem All_any (w : World) (base : Nat) (v : Value) (l : List Rg) (hown : OwnR w base v l) (hb : base ≤ w.heap.size) (hok : ∀ r ∈ l, r.ok = true) (hl : l.length ≤ 100000000) :
    Calls Try.prog 29 #[v] w fun e w' => ∃ l' v', e = .returned v' ∧ SortedR l l' ∧ OwnR w' w.heap.size v' (l'.foldl putR []) ∧ Below base w w' := by
  obtain ⟨A, c, rfl, hA1, hA2, _⟩ := hown.form
  have HS := Lib.hid (SortFuncR_any w base _ l hown hb (by omega))
  obtain ⟨n, hn⟩ : ∃ n, l.length = n := ⟨_, rfl⟩
  rw [hn] at HS hl
  rw [hn]
  clear hA1 hA2 hown
  have HN := Lib.hid hn
  clear hn
  go_enter Try.func29, Try.ntmps29
  go_wp2_with fail
  refine HS.out.mono ?_
  rintro e w2 ⟨rfl, l', hs, hv, h2⟩
  have hsl : Sl w2 w2.heap.size A (rv l') := by
    rcases hv with rfl | ⟨g, c', e, hg, hr⟩
    · have : l' = [] := List.eq_nil_of_length_eq_zero hs.1
      subst this; exact .inl rfl
    · injection e with e1 e2 e3; subst e1; exact hr.sl
  have HOK := Lib.hid (And.intro (fun r hr => hok r ((hs.2.1 r).1 hr)) (And.intro hs (hs.1.trans HN.out)) : (∀ r ∈ l', r.ok = true) ∧ SortedR l l' ∧ l'.length = n)
  clear hs hv hok HS
  go_wp2_with fail
  go_loopw [3, 10] (fun x3 x10 wr => ∃ (k : Nat) (x : Value), k ≤ n ∧ x10 = .int .i64 (k : Int) ∧ x = x3 ∧ OwnR wr w2.heap.size x ((l'.take k).foldl putR []) ∧ Below w2.heap.size w2 wr) (fun _ x10 _ => n - (intOf x10).toNat)
  case atStart => exact ⟨0, _, by omega, rfl, rfl, OwnR.nil _ _, Below.refl _ _⟩
  case round =>
    obtain ⟨k, x3, hk, rfl, rfl, hown, hbel⟩ := hrel
    by_cases hlt : k < n
    · have hkl : k < l'.length := by have := HOK.out.2.2; omega
      obtain ⟨b, o, rfl, _, hbW, c0, c1⟩ := rgAt hsl hkl
      replace c0 := (hbel.cell hbW).trans c0
      replace c1 := (hbel.cell hbW).trans c1
      have hstep := fold_take_succ hkl
      have hlen := fold_len (l'.take k) []
      rw [List.length_take] at hlen
      have hlast := last_okR (fold_take_ok HOK.out.1 HOK.out.2.1.2.2 k)
      generalize l'[k]?.getD ⟨0, 0⟩ = x at *
      generalize (l'.take k).foldl putR [] = q at *
      have hd1 : decide ((k : Int) < (n : Int)) = true := by rw [decide_eq_true_eq]; omega
      have hn0 : (0 : Int) ≤ (k : Int) := by omega
      have hn1 : (k : Int) < (n : Int) := by omega
      have hbx := hbel.alloc hbel.size (.cells #[.int .i64 x.a, .int .i64 x.b] 24)
      have HP := Lib.hid (Put_any w2 _ x3 q x (hown.below (boxR wr x)) hbx hlast (by simp at hlen; omega))
      have HT := Lib.hid hstep
      unfold Rg.v at HP
      clear hlast hlen hstep hbx hown hkl
      go_wp2_with fail
      refine HP.out.mono ?_
      rintro e w3 ⟨v3, rfl, hown3, h3⟩
      go_wp2_with fail
      go_roundw
      case rel => exact ⟨k + 1, _, by omega, by go_num, rfl, by rw [HT.out]; exact hown3, h3⟩
      case measure => simp [intOf]; omega
    · obtain rfl : k = n := by omega
      have hd1 : decide ((k : Int) < (k : Int)) = false := by rw [decide_eq_false_iff_not]; omega
      rw [List.take_of_length_le (by have := HOK.out.2.2; omega)] at hown
      go_wp2_with fail
      go_ret
      exact ⟨l', _, rfl, HOK.out.2.1, hown.lower h2.size, h2.trans (hbel.mono (Nat.le_trans hb h2.size))⟩
end Go.Proofs.Ytdpkmabojlihmaa

