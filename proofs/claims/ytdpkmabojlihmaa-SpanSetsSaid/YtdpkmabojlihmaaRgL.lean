/- Ranges: span.Join, span.Add. -/
import Derived.Test.YtdpkmabojlihmaaRgI
import Derived.Test.YtdpkmabojlihmaaRgK
import Derived.Test.YtdpkmabojlihmaaRgB
namespace Go.Proofs.Ytdpkmabojlihmaa
open Go.RowKit Go.Proofs.Ytdpkmabojlihmaa.Pl Go.Proofs.Ytdpkmabojlihmaa.Sp

/-- a row of ranges is answered -/
def RAns (w : World) (q : List Rg) (e : Ending) (w' : World) : Prop := ∃ A c, e = .returned (.slice A q.length c) ∧ Sl w' w'.heap.size A (rv q) ∧ q.length ≤ c ∧ c ≤ maxLen ∧ Below w.heap.size w w'
theorem RAns.of {w w' : World} {q : List Rg} {v : Value} {base : Nat} (h : OwnR w' base v q) (hb : Below w.heap.size w w') : RAns w q (.returned v) w' := by
  obtain ⟨A, c, rfl, h1, h2, h3, _⟩ := h.form
  exact ⟨A, c, rfl, h3, h1, h2, hb⟩
theorem RAns.nil {w w' : World} (hb : Below w.heap.size w w') : RAns w [] (.returned (.slice none 0 0)) w' := ⟨none, 0, rfl, .inl rfl, Nat.le_refl _, by simp [maxLen], hb⟩
theorem copied0 (a : List Rg) (n n' : Nat) (_h : n = a.length) : (List.replicate (n + n') (⟨0, 0⟩ : Rg)).take 0 ++ a ++ (List.replicate (n + n') (⟨0, 0⟩ : Rg)).drop (0 + n) = a ++ List.replicate n' (⟨0, 0⟩ : Rg) := by
  rw [List.take_zero, List.nil_append, List.drop_replicate]
  congr 2
  omega
theorem copied1 (a b : List Rg) (n n' : Nat) (h : n = a.length) (_h' : n' = b.length) : (a ++ List.replicate n' (⟨0, 0⟩ : Rg)).take n ++ b ++ (a ++ List.replicate n' (⟨0, 0⟩ : Rg)).drop (n + n') = a ++ b := by
  subst h
  rw [List.take_left, List.drop_eq_nil_of_le (by simp), List.append_nil]
set_option maxRecDepth 100000 in
set_option maxHeartbeats 3200000 in
theorem Join_any (w : World) (A A' : Option Addr) (n n' c c' : Nat) (a b : List Rg) (ha : Sl w w.heap.size A (rv a)) (hb : Sl w w.heap.size A' (rv b)) (h0 : n = a.length) (h1 : n' = b.length) (hl : n ≤ 10000000) (hl' : n' ≤ 10000000) (hc' : n' ≤ c') :
    Calls Try.prog 19 #[.slice A n c, .slice A' n' c'] w (RAns w (joinS a b)) := by
  have hra := RRight_any w A n c a ha h0 (by omega)
  have hrb := fun W (hW : Below w.heap.size w W) => RRight_any W A' n' c' b ((hb.below hW).more hW.size) h1 (by omega)
  obtain ⟨p, hp⟩ : ∃ p, right a = p := ⟨_, rfl⟩
  obtain ⟨q, hq⟩ : ∃ q, right b = q := ⟨_, rfl⟩
  rw [hp] at hra
  rw [hq] at hrb
  have HA := Lib.hid hra
  have HB := Lib.hid hrb
  have HN := Lib.hid (And.intro h0 h1)
  clear hra hrb h0 h1
  cases p with
  | false =>
    have HJ := Lib.hid (show joinS a b = [] by rw [joinS, if_neg (by rw [hp]; simp)])
    clear hp hq ha hb
    go_enter Try.func19, Try.ntmps19
    go_wp2_with fail
    refine HA.out.mono ?_
    rintro e w1 ⟨rfl, h1⟩
    go_wp2_with fail
    go_ret
    rw [HJ.out]
    exact RAns.nil h1
  | true =>
    cases q with
    | false =>
      have HJ := Lib.hid (show joinS a b = [] by rw [joinS, if_neg (by rw [hq]; simp)])
      clear hp hq ha hb
      go_enter Try.func19, Try.ntmps19
      go_wp2_with fail
      refine HA.out.mono ?_
      rintro e w1 ⟨rfl, h1⟩
      go_wp2_with fail
      refine (HB.out w1 h1).mono ?_
      rintro e w2 ⟨rfl, h2⟩
      have hbz := h1.trans (h2.mono h1.size)
      go_wp2_with fail
      go_ret
      rw [HJ.out]
      exact RAns.nil hbz
    | true =>
      have hokab : ∀ r ∈ a ++ b, r.ok = true := fun r hr => by
        rcases List.mem_append.1 hr with h | h
        · exact right_ok hp r h
        · exact right_ok hq r h
      have HJ := Lib.hid (And.intro hp (And.intro hq hokab))
      clear hokab
      clear hp hq
      have HC0 := Lib.hid (copied0 a n n' HN.out.1)
      have HC1 := Lib.hid (copied1 a b n n' HN.out.1 HN.out.2)
      rcases Nat.eq_zero_or_pos n' with h0 | hpos
      · subst h0
        simp only [Nat.add_zero] at HC0
        have hnn : IntKind.i64.wrap (n : Int) = (n : Int) := by rw [IntKind.wrap_i64]; omega
        go_enter Try.func19, Try.ntmps19
        go_wp2_with fail
        refine HA.out.mono ?_
        rintro e w1 ⟨rfl, h1⟩
        go_wp2_with fail
        refine (HB.out w1 h1).mono ?_
        rintro e w2 ⟨rfl, h2⟩
        have hbz := h1.trans (h2.mono h1.size)
        have ha2 := (ha.below hbz).more hbz.size
        have hb2 := (hb.below hbz).more hbz.size
        clear ha hb h1 h2
        go_wp2_with (first
          | (at_make; refine mkR (n := n) rfl rfl rfl rfl ?_ ?_ (by omega) ?_; (all_goals try omega); intro w3 hown3 hg3; have ha3 := ha2.below (below_noneR hg3); have hb3 := hb2.below (below_noneR hg3); have hbz3 := hbz.trans ((below_noneR hg3).mono hbz.size))
          | (refine copyR (s := .tmp 20) (x := .tmp 21) rfl rfl hown3 0 ha3 HN.out.1 rfl rfl (fun _ => rfl) (by omega) (by simp) ?_; intro w4 hown4 hg4; have hb4 := hb3.grown hg4 (fun g' e => by cases e; exact Nat.le_refl _); rw [HC0.out] at hown4)
          | (refine copyR (s := .tmp 26) (x := .tmp 27) rfl rfl hown4 n hb4 HN.out.2 rfl rfl (fun h => by first | rfl | omega) (by omega) (by have := HN.out; simp <;> omega) ?_; intro w5 hown5 hg5; rw [HC1.out] at hown5))
        have hbz5 := (hbz3.trans (below_of_grown hg4 (fun g' e => by cases e; exact hbz.size) hbz3.size)).trans (below_of_grown hg5 (fun g' e => by cases e; exact hbz.size) (Nat.le_trans hbz3.size hg4.size))
        refine (All_any w5 w2.heap.size _ (a ++ b) hown5 (Nat.le_trans (below_noneR hg3).size (Nat.le_trans hg4.size hg5.size)) HJ.out.2.2 (by have := HN.out; simp; omega)).mono ?_
        rintro e w6 ⟨l', v6, rfl, hso, hown6, h6⟩
        have hfin := all_join HJ.out.1 HJ.out.2.1 hso.2.1 hso.2.2
        have hbz6 := hbz5.trans (h6.mono hbz.size)
        rw [hfin] at hown6
        clear hfin
        go_wp2_with fail
        go_ret
        exact RAns.of hown6 hbz6
      · have hnn : IntKind.i64.wrap ((n : Int) + (n' : Int)) = ((n + n' : Nat) : Int) := by rw [IntKind.wrap_i64]; omega
        have hne : ¬ n + n' = n := by omega
        go_enter Try.func19, Try.ntmps19
        go_wp2_with fail
        refine HA.out.mono ?_
        rintro e w1 ⟨rfl, h1⟩
        go_wp2_with fail
        refine (HB.out w1 h1).mono ?_
        rintro e w2 ⟨rfl, h2⟩
        have hbz := h1.trans (h2.mono h1.size)
        have ha2 := (ha.below hbz).more hbz.size
        have hb2 := (hb.below hbz).more hbz.size
        clear ha hb h1 h2
        go_wp2_with (first
          | (at_make; refine mkR (n := n + n') rfl rfl rfl rfl ?_ ?_ (by omega) ?_; (all_goals try omega); intro w3 hown3 hg3; have ha3 := ha2.below (below_noneR hg3); have hb3 := hb2.below (below_noneR hg3); have hbz3 := hbz.trans ((below_noneR hg3).mono hbz.size))
          | (refine copyR (s := .tmp 20) (x := .tmp 21) rfl rfl hown3 0 ha3 HN.out.1 rfl rfl (fun _ => rfl) (by omega) (by simp) ?_; intro w4 hown4 hg4; have hb4 := hb3.grown hg4 (fun g' e => by cases e; exact Nat.le_refl _); rw [HC0.out] at hown4)
          | (refine copyR (s := .tmp 26) (x := .tmp 27) rfl rfl hown4 n hb4 HN.out.2 rfl rfl (fun h => by first | rfl | omega) (by omega) (by have := HN.out; simp <;> omega) ?_; intro w5 hown5 hg5; rw [HC1.out] at hown5))
        have hbz5 := (hbz3.trans (below_of_grown hg4 (fun g' e => by cases e; exact hbz.size) hbz3.size)).trans (below_of_grown hg5 (fun g' e => by cases e; exact hbz.size) (Nat.le_trans hbz3.size hg4.size))
        refine (All_any w5 w2.heap.size _ (a ++ b) hown5 (Nat.le_trans (below_noneR hg3).size (Nat.le_trans hg4.size hg5.size)) HJ.out.2.2 (by have := HN.out; simp; omega)).mono ?_
        rintro e w6 ⟨l', v6, rfl, hso, hown6, h6⟩
        have hfin := all_join HJ.out.1 HJ.out.2.1 hso.2.1 hso.2.2
        have hbz6 := hbz5.trans (h6.mono hbz.size)
        rw [hfin] at hown6
        clear hfin
        go_wp2_with fail
        go_ret
        exact RAns.of hown6 hbz6
end Go.Proofs.Ytdpkmabojlihmaa

