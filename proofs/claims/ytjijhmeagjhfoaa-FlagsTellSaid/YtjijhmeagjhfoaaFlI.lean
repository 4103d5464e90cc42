/- Flags: Ids. -/
import Derived.Test.YtjijhmeagjhfoaaFlA
import Derived.Test.YtjijhmeagjhfoaaIdS
namespace Go.Proofs.Ytjijhmeagjhfoaa
open Go.RowKit Go.Maps Go.Shelf
attribute [local go_sem] Oper.semAt_some
set_option maxRecDepth 20000

theorem sorted_is {R : List FE} (hR : Rise R) {xs l' : List ID} (h1 : xs.Perm (R.map (·.1))) (h2 : SortedI xs l') : l' = R.map (·.1) := by
  refine (h2.1.trans h1).eq_of_pairwise (le := fun a b => b.lt a = false) (fun a b _ _ h3 h4 => ID.total h4 h3) h2.2 ?_
  rw [List.pairwise_map]
  exact hR.imp fun h => ID.asymm h
def IdsPost (w : World) (l : List ID) (e : Ending) (w' : World) : Prop := ∃ A c, e = .returned (.slice A l.length c) ∧ Sl w' w'.heap.size A (EI.dv l) ∧ l.length ≤ c ∧ c ≤ maxLen ∧ Below w.heap.size w w'
def SortedPost (w : World) (S : List ID → Prop) (e : Ending) (w' : World) : Prop := ∃ xs l', S xs ∧ SortedI xs l' ∧ IdsPost w l' e w'
theorem SortedFunc_in (n : Nat) (g : Nat) (lb : Array Value) (eg : ∀ args w, (callFunc g args).run Try.prog w = .ok (.enter g args) w) (S : List ID → Prop) (N : Nat) (hN : N ≤ 1000000) (hSN : ∀ xs, S xs → xs.length ≤ 1000000) (w : World) (hseq : SeqGives Fence.wide (n - 1 - 1 - 1) Try.prog g lb ID.v S N w) :
    CallsIn Fence.wide n Try.prog 30 #[.func (.func g) #[] lb, .func (.func 32) #[] #[]] w (SortedPost w S) := by
  refine callsIn_of_wp Try.func30 rfl trivial ?_ rfl
  simp only [Try.ntmps30, List.size_toArray, List.length_cons, List.length_nil, Nat.reduceAdd, Nat.reduceSub, Array.replicate_succ, Array.replicate_zero, List.push_toArray, List.append_toArray, List.nil_append, List.cons_append]
  gi_wp2
  refine ⟨trivial, fun h => (by simp [Fence.wide] at h), (Collect_in (n - 1) g lb eg S N hN w hseq).mono ?_⟩
  rintro e w1 ⟨v, xs, rfl, h1, h2, h3⟩
  have hxl := hSN xs h1
  have HC := Lib.hid (SortFunc_any w1 w.heap.size v xs h2 h3.size (by omega))
  have hc2 : v = .slice none 0 0 ∨ ∃ g c, v = .slice (some ⟨g, 0, none⟩) xs.length c ∧ xs.length ≤ c ∧ c ≤ maxLen := by
    rcases Nat.eq_zero_or_pos xs.length with h0 | hp
    · rcases h2.2 with ⟨rfl, _⟩ | ⟨g, c, _, rfl, _, _, h5, h6, _⟩
      · exact .inl rfl
      · exact .inr ⟨g, c, rfl, h5, h6⟩
    · obtain ⟨g, c, rfl, _, _, h5, h6⟩ := h2.head hp
      exact .inr ⟨g, c, rfl, h5, h6⟩
  have H3 := Lib.hid (And.intro h1 h3)
  clear h1 h2 h3 hxl
  rcases hc2 with rfl | ⟨gv, cv, rfl, hcv⟩
  · gi_wp2
    refine ⟨trivial, fun h => (by simp [Fence.wide] at h), (callsIn_wide.2 HC.out).mono ?_⟩
    rintro e w2 ⟨rfl, l', hs, hrow, hb⟩
    have HR := Lib.hid hrow
    clear hrow
    gi_wp2
    go_ret
    have hx : xs = [] := by
      rcases HR.out with ⟨h, _⟩ | ⟨g, c, h, _⟩
      · exact h
      · cases h
    subst hx
    have hl' : l' = [] := List.perm_nil.1 hs.1
    subst hl'
    exact ⟨[], [], H3.out.1, hs, none, 0, rfl, .inl rfl, Nat.le_refl _, Nat.zero_le _, H3.out.2.trans hb⟩
  · have HCV := Lib.hid hcv
    clear hcv
    gi_wp2
    refine ⟨trivial, fun h => (by simp [Fence.wide] at h), (callsIn_wide.2 HC.out).mono ?_⟩
    rintro e w2 ⟨rfl, l', hs, hrow, hb⟩
    have HR := Lib.hid hrow
    clear hrow
    gi_wp2
    go_ret
    have hll : l'.length = xs.length := hs.1.length_eq
    refine ⟨xs, l', H3.out.1, hs, some ⟨gv, 0, none⟩, cv, by rw [hll]; rfl, ?_, by rw [hll]; exact HCV.out.1, HCV.out.2, H3.out.2.trans hb⟩
    rcases HR.out with ⟨h, _⟩ | ⟨g, c, e, _, hr⟩
    · subst h
      have : l' = [] := List.perm_nil.1 hs.1
      subst this
      exact .inl rfl
    · simp only [Value.slice.injEq, Option.some.injEq, Addr.mk.injEq] at e
      obtain ⟨⟨rfl, _⟩, _⟩ := e
      exact hr.sl
set_option maxHeartbeats 1000000 in
theorem Ids_any (w : World) (m b : Nat) (R : List FE) (h : FSt w m b R) (hn : R.length ≤ 1000000) :
    Calls Try.prog 23 #[.pointer (some ⟨m, 0, none⟩)] w (IdsPost w (R.map (·.1))) := by
  obtain ⟨h1, ⟨L, h2, h3⟩, h4, _⟩ := h
  have hc := h1.c 0 (v := .map (some b)) rfl
  have eg : ∀ args w, (callFunc 40 args).run Try.prog w = .ok (.enter 40 args) w := enters_of Try.func40 (by kernel_rfl) rfl
  have hlen := h3.length_eq
  have HSo := Lib.hid (SortedFunc_in 9 _ _ eg _ L.length (by omega) (fun xs hx => by rw [hx.length_eq, List.length_map]; omega) _ (keys_gives (9 - 1 - 1 - 1) b L w h2))
  have H3 := Lib.hid (And.intro h3 h4)
  clear h2 h3 h4 hlen hn
  refine (callsIn_wide (n := 10)).1 ?_
  refine callsIn_of_wp Try.func23 rfl trivial ?_ rfl
  simp only [Try.ntmps23, List.size_toArray, List.length_cons, List.length_nil, Nat.reduceAdd, Nat.reduceSub, Array.replicate_succ, Array.replicate_zero, List.push_toArray, List.append_toArray, List.nil_append, List.cons_append]
  gi_wp2
  refine ⟨trivial, (keys_in _ b w).mono ?_⟩
  rintro e w1 ⟨rfl, rfl⟩
  gi_wp2
  refine ⟨trivial, HSo.out.mono ?_⟩
  rintro e w2 ⟨xs, l', hS, hs, A, c, rfl, hsl, hc1, hc2, hb⟩
  have hl' := sorted_is H3.out.2 (hS.trans (H3.out.1.map _)) hs
  have HL := Lib.hid (And.intro hl' (And.intro hsl (And.intro hc1 (And.intro hc2 hb))))
  clear hl' hsl hc1 hc2 hb hS hs
  gi_wp2
  go_ret
  obtain ⟨hl', hsl, hc1, hc2, hb⟩ := HL.out
  subst hl'
  exact ⟨A, c, rfl, hsl, hc1, hc2, ((Below.refl _ w).alloc (Nat.le_refl _) _).trans (hb.mono (by simp))⟩
end Go.Proofs.Ytjijhmeagjhfoaa

