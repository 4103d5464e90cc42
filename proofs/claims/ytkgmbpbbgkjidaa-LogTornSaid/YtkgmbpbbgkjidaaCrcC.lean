/- What is changed somewhere. Written by changed.py. -/
import Derived.Test.YtkgmbpbbgkjidaaCrcB
namespace Go.Proofs.Ytkgmbpbbgkjidaa
open Go.RowKit Go.Proofs.Ytkgmbpbbgkjidaa.Pc Go.Proofs.Ytkgmbpbbgkjidaa.Pl

def ChangedPost (w : World) (n : Nat) (e : Ending) (w' : World) : Prop := ∃ (A : Option Addr) (c : Nat) (l : List UInt8), e = .returned (.slice A l.length c) ∧ Sl w' w'.heap.size A (bv l) ∧ l.length ≤ c ∧ c ≤ maxLen ∧ l.length ≤ n + 1 ∧ Below w.heap.size w w'
theorem changed_of {w w' : World} {base n m : Nat} {l : List UInt8} {A : Option Addr} {c : Nat} (h : OwnB w' base (.slice A m c) l) (hm : m = l.length) (hn : l.length ≤ n + 1) (hb : Below w.heap.size w w') : ChangedPost w n (.returned (.slice A m c)) w' := by
  subst hm
  obtain ⟨h1, h2, h3⟩ := OwnB.sl h
  exact ⟨A, c, l, rfl, h1, h2, h3, hn, hb⟩
set_option maxRecDepth 100000 in
set_option maxHeartbeats 6400000 in
theorem Changed_any (w : World) (A : Option Addr) (n c : Nat) (l : List UInt8) (hb : Sl w w.heap.size A (bv l)) (h0 : n = l.length) (hl : l.length < 140737488355328) (a : Int) (_ha1 : -9223372036854775808 ≤ a) (_ha2 : a ≤ 9223372036854775807) (x : Nat) (hx : x < 256) (h : Nat) (hh : h < 256) :
    Calls Try.prog 22 #[.slice A n c, .int .i64 a, .int .u8 (x : Int), .int .u8 (h : Int)] w (ChangedPost w l.length) := by
  subst h0
  by_cases hz : l = []
  · subst hz
    go_enter Try.func22, Try.ntmps22
    go_wp2_with (at_builtin; refine app rfl rfl (OwnB.nil w w.heap.size) hb rfl rfl rfl (by simp) (Nat.le_refl _) ?_; intro s1 w1 h1 hg1 hat1)
    rw [List.nil_append] at h1
    have hb1 : Below w.heap.size w w1 := below_of_grown hg1 (by simp [Value.ownBlock]) (Nat.le_refl _)
    obtain ⟨A1, c1, rfl, _⟩ := h1.form
    clear hat1 hg1
    have hlenf := run_len_slice (P := Try.prog) (w := w1) 25 3 A1 0 c1 Try.underlying25
    simp only [List.length_nil]
    rw [hlenf]
    clear hlenf
    go_wp2_with (at_builtin; refine appN rfl rfl h1 (one_bv x hx) rfl rfl rfl (by simp) hb1.size ?_; intro s2 w2 h2 hg2 hat2)
    obtain ⟨A2, c2, rfl, _⟩ := h2.form
    have hb2 := own_below hb1 hb1.size h1 hg2
    go_ret
    exact changed_of h2 rfl (by simp) hb2
  have hpos : 0 < l.length := List.length_pos_iff.2 hz
  have hlt := Int.tmod_lt_of_pos a (show (0 : Int) < l.length by omega)
  have hgt : -(l.length : Int) < a.tmod l.length := Int.lt_tmod_of_pos a (show (0 : Int) < l.length by omega)
  have hne : ((l.length : Int) == 0) = false := by simp; omega
  have hll : l.length ≤ 140737488355328 := by omega
  by_cases hs : a.tmod l.length < 0
  · obtain ⟨k, hk, hkl⟩ : ∃ k : Nat, a.tmod l.length + l.length = (k : Int) ∧ k < l.length := ⟨(a.tmod l.length + l.length).toNat, by omega, by omega⟩
    by_cases h0 : (h : Int) % 5 = 0
    · have f0 : ((h : Int) % 5 == 0) = true := by simp; omega
      clear h0
      go_enter Try.func22, Try.ntmps22
      go_wp2_with (at_builtin; refine app rfl rfl (OwnB.nil w w.heap.size) hb rfl rfl rfl (by simpa using hll) (Nat.le_refl _) ?_; intro s1 w1 h1 hg1 hat1)
      rw [List.nil_append] at h1
      have hb1 : Below w.heap.size w w1 := below_of_grown hg1 (by simp [Value.ownBlock]) (Nat.le_refl _)
      obtain ⟨g, cap, rfl, hg, hgw, hcap, hcapm⟩ := h1.head hpos
      have hkc : (k : Int) ≤ (cap : Int) := by omega
      have hlenf := run_len_slice (P := Try.prog) (w := w1) 25 3 (some ⟨g, 0, none⟩) l.length cap Try.underlying25
      rw [hlenf]
      clear hlenf hat1 hg1
      have hs1 := (OwnB.sl h1).1.tk k
      rw [bv_take] at hs1
      go_wp2_with fail
      go_ret
      exact ⟨some ⟨g, 0, none⟩, k, l.take k, by rw [List.length_take, Nat.min_eq_left (by omega)]; rfl, hs1, by rw [List.length_take]; omega, by simp only [maxLen] at *; omega, by rw [List.length_take]; omega, hb1⟩
    by_cases h1 : (h : Int) % 5 = 1
    · have f0 : ((h : Int) % 5 == 0) = false := by simp; omega
      have f1 : ((h : Int) % 5 == 1) = true := by simp; omega
      clear h0 h1
      go_enter Try.func22, Try.ntmps22
      go_wp2_with (at_builtin; refine app rfl rfl (OwnB.nil w w.heap.size) hb rfl rfl rfl (by simpa using hll) (Nat.le_refl _) ?_; intro s1 w1 h1 hg1 hat1)
      rw [List.nil_append] at h1
      have hb1 : Below w.heap.size w w1 := below_of_grown hg1 (by simp [Value.ownBlock]) (Nat.le_refl _)
      obtain ⟨g, cap, rfl, hg, hgw, hcap, hcapm⟩ := h1.head hpos
      have hkc : (k : Int) ≤ (cap : Int) := by omega
      have hlenf := run_len_slice (P := Try.prog) (w := w1) 25 3 (some ⟨g, 0, none⟩) l.length cap Try.underlying25
      rw [hlenf]
      clear hlenf hat1 hg1
      go_wp2_with (at_builtin; refine appN rfl rfl h1 (one_bv x hx) rfl rfl rfl (by simp; omega) hb1.size ?_; intro s2 w2 h2 hg2 hat2)
      obtain ⟨A2, c2, rfl, _⟩ := h2.form
      have hb2 := own_below hb1 hb1.size h1 hg2
      go_ret
      exact changed_of h2 rfl (by simp) hb2
    by_cases h2 : (h : Int) % 5 = 2
    · have f0 : ((h : Int) % 5 == 0) = false := by simp; omega
      have f1 : ((h : Int) % 5 == 1) = false := by simp; omega
      have f2 : ((h : Int) % 5 == 2) = true := by simp; omega
      clear h0 h1 h2
      go_enter Try.func22, Try.ntmps22
      go_wp2_with (at_builtin; refine app rfl rfl (OwnB.nil w w.heap.size) hb rfl rfl rfl (by simpa using hll) (Nat.le_refl _) ?_; intro s1 w1 h1 hg1 hat1)
      rw [List.nil_append] at h1
      have hb1 : Below w.heap.size w w1 := below_of_grown hg1 (by simp [Value.ownBlock]) (Nat.le_refl _)
      obtain ⟨g, cap, rfl, hg, hgw, hcap, hcapm⟩ := h1.head hpos
      have hkc : (k : Int) ≤ (cap : Int) := by omega
      have hlenf := run_len_slice (P := Try.prog) (w := w1) 25 3 (some ⟨g, 0, none⟩) l.length cap Try.underlying25
      rw [hlenf]
      clear hlenf hat1 hg1
      obtain ⟨hcell, hfz, hst, hgr⟩ := h1.store k x (by omega) hx
      have hbst := below_of_grown hgr (B := w.heap.size) (fun g' e => by cases e; exact hg) hb1.size
      go_wp2_with fail
      go_ret
      exact changed_of (l := l.set k (UInt8.ofNat x)) hst (by simp) (by simp) (hb1.trans hbst)
    · have f0 : ((h : Int) % 5 == 0) = false := by simp; omega
      have f1 : ((h : Int) % 5 == 1) = false := by simp; omega
      have f2 : ((h : Int) % 5 == 2) = false := by simp; omega
      clear h0 h1 h2
      go_enter Try.func22, Try.ntmps22
      go_wp2_with (at_builtin; refine app rfl rfl (OwnB.nil w w.heap.size) hb rfl rfl rfl (by simpa using hll) (Nat.le_refl _) ?_; intro s1 w1 h1 hg1 hat1)
      rw [List.nil_append] at h1
      have hb1 : Below w.heap.size w w1 := below_of_grown hg1 (by simp [Value.ownBlock]) (Nat.le_refl _)
      obtain ⟨g, cap, rfl, hg, hgw, hcap, hcapm⟩ := h1.head hpos
      have hkc : (k : Int) ≤ (cap : Int) := by omega
      have hlenf := run_len_slice (P := Try.prog) (w := w1) 25 3 (some ⟨g, 0, none⟩) l.length cap Try.underlying25
      rw [hlenf]
      clear hlenf hat1 hg1
      have hxu : (x : Int) = ((UInt8.ofNat x).toNat : Int) := by simp only [UInt8.toNat_ofNat']; omega
      have HU := Lib.hid hxu
      have hxor : bits .xor .u8 ((l[k]?.getD 0).toNat : Int) (x : Int) = ((l[k]?.getD 0 ^^^ UInt8.ofNat x).toNat : Int) := by rw [HU.out, xor_u8]
      obtain ⟨hcell, hfz, hst, hgr⟩ := h1.store k (l[k]?.getD 0 ^^^ UInt8.ofNat x).toNat (by omega) (UInt8.toNat_lt _)
      rw [UInt8.ofNat_toNat] at hst
      have hbst := below_of_grown hgr (B := w.heap.size) (fun g' e => by cases e; exact hg) hb1.size
      clear hxu
      generalize l[k]?.getD 0 ^^^ UInt8.ofNat x = z at *
      generalize l[k]?.getD 0 = y at *
      go_wp2_with fail
      go_ret
      exact changed_of (l := l.set k z) hst (by simp) (by simp) (hb1.trans hbst)
  · obtain ⟨k, hk, hkl⟩ : ∃ k : Nat, a.tmod l.length = (k : Int) ∧ k < l.length := ⟨(a.tmod l.length).toNat, by omega, by omega⟩
    rw [hk] at hs hlt hgt
    by_cases h0 : (h : Int) % 5 = 0
    · have f0 : ((h : Int) % 5 == 0) = true := by simp; omega
      clear h0
      go_enter Try.func22, Try.ntmps22
      go_wp2_with (at_builtin; refine app rfl rfl (OwnB.nil w w.heap.size) hb rfl rfl rfl (by simpa using hll) (Nat.le_refl _) ?_; intro s1 w1 h1 hg1 hat1)
      rw [List.nil_append] at h1
      have hb1 : Below w.heap.size w w1 := below_of_grown hg1 (by simp [Value.ownBlock]) (Nat.le_refl _)
      obtain ⟨g, cap, rfl, hg, hgw, hcap, hcapm⟩ := h1.head hpos
      have hkc : (k : Int) ≤ (cap : Int) := by omega
      have hlenf := run_len_slice (P := Try.prog) (w := w1) 25 3 (some ⟨g, 0, none⟩) l.length cap Try.underlying25
      rw [hlenf]
      clear hlenf hat1 hg1
      have hs1 := (OwnB.sl h1).1.tk k
      rw [bv_take] at hs1
      go_wp2_with fail
      go_ret
      exact ⟨some ⟨g, 0, none⟩, k, l.take k, by rw [List.length_take, Nat.min_eq_left (by omega)]; rfl, hs1, by rw [List.length_take]; omega, by simp only [maxLen] at *; omega, by rw [List.length_take]; omega, hb1⟩
    by_cases h1 : (h : Int) % 5 = 1
    · have f0 : ((h : Int) % 5 == 0) = false := by simp; omega
      have f1 : ((h : Int) % 5 == 1) = true := by simp; omega
      clear h0 h1
      go_enter Try.func22, Try.ntmps22
      go_wp2_with (at_builtin; refine app rfl rfl (OwnB.nil w w.heap.size) hb rfl rfl rfl (by simpa using hll) (Nat.le_refl _) ?_; intro s1 w1 h1 hg1 hat1)
      rw [List.nil_append] at h1
      have hb1 : Below w.heap.size w w1 := below_of_grown hg1 (by simp [Value.ownBlock]) (Nat.le_refl _)
      obtain ⟨g, cap, rfl, hg, hgw, hcap, hcapm⟩ := h1.head hpos
      have hkc : (k : Int) ≤ (cap : Int) := by omega
      have hlenf := run_len_slice (P := Try.prog) (w := w1) 25 3 (some ⟨g, 0, none⟩) l.length cap Try.underlying25
      rw [hlenf]
      clear hlenf hat1 hg1
      go_wp2_with (at_builtin; refine appN rfl rfl h1 (one_bv x hx) rfl rfl rfl (by simp; omega) hb1.size ?_; intro s2 w2 h2 hg2 hat2)
      obtain ⟨A2, c2, rfl, _⟩ := h2.form
      have hb2 := own_below hb1 hb1.size h1 hg2
      go_ret
      exact changed_of h2 rfl (by simp) hb2
    by_cases h2 : (h : Int) % 5 = 2
    · have f0 : ((h : Int) % 5 == 0) = false := by simp; omega
      have f1 : ((h : Int) % 5 == 1) = false := by simp; omega
      have f2 : ((h : Int) % 5 == 2) = true := by simp; omega
      clear h0 h1 h2
      go_enter Try.func22, Try.ntmps22
      go_wp2_with (at_builtin; refine app rfl rfl (OwnB.nil w w.heap.size) hb rfl rfl rfl (by simpa using hll) (Nat.le_refl _) ?_; intro s1 w1 h1 hg1 hat1)
      rw [List.nil_append] at h1
      have hb1 : Below w.heap.size w w1 := below_of_grown hg1 (by simp [Value.ownBlock]) (Nat.le_refl _)
      obtain ⟨g, cap, rfl, hg, hgw, hcap, hcapm⟩ := h1.head hpos
      have hkc : (k : Int) ≤ (cap : Int) := by omega
      have hlenf := run_len_slice (P := Try.prog) (w := w1) 25 3 (some ⟨g, 0, none⟩) l.length cap Try.underlying25
      rw [hlenf]
      clear hlenf hat1 hg1
      obtain ⟨hcell, hfz, hst, hgr⟩ := h1.store k x (by omega) hx
      have hbst := below_of_grown hgr (B := w.heap.size) (fun g' e => by cases e; exact hg) hb1.size
      go_wp2_with fail
      go_ret
      exact changed_of (l := l.set k (UInt8.ofNat x)) hst (by simp) (by simp) (hb1.trans hbst)
    · have f0 : ((h : Int) % 5 == 0) = false := by simp; omega
      have f1 : ((h : Int) % 5 == 1) = false := by simp; omega
      have f2 : ((h : Int) % 5 == 2) = false := by simp; omega
      clear h0 h1 h2
      go_enter Try.func22, Try.ntmps22
      go_wp2_with (at_builtin; refine app rfl rfl (OwnB.nil w w.heap.size) hb rfl rfl rfl (by simpa using hll) (Nat.le_refl _) ?_; intro s1 w1 h1 hg1 hat1)
      rw [List.nil_append] at h1
      have hb1 : Below w.heap.size w w1 := below_of_grown hg1 (by simp [Value.ownBlock]) (Nat.le_refl _)
      obtain ⟨g, cap, rfl, hg, hgw, hcap, hcapm⟩ := h1.head hpos
      have hkc : (k : Int) ≤ (cap : Int) := by omega
      have hlenf := run_len_slice (P := Try.prog) (w := w1) 25 3 (some ⟨g, 0, none⟩) l.length cap Try.underlying25
      rw [hlenf]
      clear hlenf hat1 hg1
      have hxu : (x : Int) = ((UInt8.ofNat x).toNat : Int) := by simp only [UInt8.toNat_ofNat']; omega
      have HU := Lib.hid hxu
      have hxor : bits .xor .u8 ((l[k]?.getD 0).toNat : Int) (x : Int) = ((l[k]?.getD 0 ^^^ UInt8.ofNat x).toNat : Int) := by rw [HU.out, xor_u8]
      obtain ⟨hcell, hfz, hst, hgr⟩ := h1.store k (l[k]?.getD 0 ^^^ UInt8.ofNat x).toNat (by omega) (UInt8.toNat_lt _)
      rw [UInt8.ofNat_toNat] at hst
      have hbst := below_of_grown hgr (B := w.heap.size) (fun g' e => by cases e; exact hg) hb1.size
      clear hxu
      generalize l[k]?.getD 0 ^^^ UInt8.ofNat x = z at *
      generalize l[k]?.getD 0 = y at *
      go_wp2_with fail
      go_ret
      exact changed_of (l := l.set k z) hst (by simp) (by simp) (hb1.trans hbst)
end Go.Proofs.Ytkgmbpbbgkjidaa

