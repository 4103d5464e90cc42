/- A region that draws its order, held by whatever is said of memory till the first of some operations (stores): what reads is waited for by all of them, what does not read may come when it will. -/
import Derived.Test.YthnbnhlfiehihaaM03
import Derived.Test.YthnbnhlfiehihaaM05
import Derived.Test.YthnbnhlfiehihaaM08
namespace Go.Proofs.Ythnbnhlfiehihaa
open Go.RowKit

def unl (Z : List Nat) (listed : Array Bool) : Prop := ∀ z ∈ Z, listed.getD z false = false
def wpZ (P : Program) (ops : Array Oper) (Q : Exit → Act → World → Prop) (S : World → Prop) (Z : List Nat) : Nat → Array Bool → Act → World → Prop
  | 0, listed, a, w => Region.ready .any ops listed = [] ∧ Q .normal a w
  | fuel + 1, listed, a, w =>
    (Region.ready .any ops listed = [] → Q .normal a w) ∧
    ∀ i ∈ Region.ready .any ops listed, wpOp P ops Q i (fun a' w' => (unl Z (listed.setIfInBounds i true) → S w') ∧ wpZ P ops Q S Z fuel (listed.setIfInBounds i true) a' w') a w
section
variable {P : Program} {ops : Array Oper} {Q : Exit → Act → World → Prop} {S : World → Prop} {Z : List Nat}
theorem unl_mono {listed : Array Bool} {i : Nat} (h : unl Z (listed.setIfInBounds i true)) : unl Z listed := fun z hz => by
  have h1 := h z hz
  cases h2 : listed.getD z false with
  | false => rfl
  | true => rw [getD_set_true h2] at h1; cases h1
theorem unl_swap {listed : Array Bool} {i j : Nat} (hi : i ∉ Z) (h : unl Z (listed.setIfInBounds j true)) : unl Z ((listed.setIfInBounds j true).setIfInBounds i true) := fun z hz => by
  have hne : i ≠ z := fun e => by subst e; exact hi hz
  rw [getD_set_ne false hne]
  exact h z hz
theorem wpAny_of_Z : ∀ (fuel : Nat) (listed : Array Bool) (a : Act) (w : World), wpZ P ops Q S Z fuel listed a w → wpAny P .any ops Q fuel listed a w
  | 0, _, _, _, h => h
  | fuel + 1, _, _, _, h => ⟨h.1, fun i hi => wpOp_mono (fun a' w' h' => wpAny_of_Z fuel _ a' w' h'.2) (h.2 i hi)⟩
theorem wpZ_first {i : Nat} {oi : Oper} {v : Value} (hi : ops[i]? = some oi) (hiZ : i ∉ Z) {T : World → Prop} (hT : ∀ (listed : Array Bool) (w' : World), Closed ops listed → listed.getD i true = false → (unl Z listed → S w') → T w') (hsel : ∀ (j : Nat) (o : Oper) cs b, ops[j]? = some o → o.op ≠ .select cs b)
    (hQ : ∀ c a w, Q (.panic c) (a.put oi.dst v) w → Q (.panic c) a w) :
    ∀ (fuel : Nat) (listed : Array Bool) (a : Act) (w : World),
      (∀ j oj, ops[j]? = some oj → j ≠ i → listed.getD j true = false → (∀ e ∈ oj.after, Region.binds .any e = true → e.on ≠ i) → oi.apart ops oj = true) →
      Closed ops listed → i ∈ Region.ready .any ops listed → YieldsIf P ops T oi v a → (unl Z listed → S w) →
      wpZ P ops Q S Z fuel (listed.setIfInBounds i true) (a.put oi.dst v) w → wpZ P ops Q S Z (fuel + 1) listed a w := by
  intro fuel
  induction fuel with
  | zero =>
    intro listed a w _ hcl hr hy hS H
    refine ⟨fun h => (by rw [h] at hr; cases hr), fun j hj => ?_⟩
    by_cases hji : j = i
    · subst hji; exact hy.wpOp hi (hT listed w hcl (mem_ready.1 hr).1 hS) ⟨fun hu => hS (unl_mono hu), H⟩
    · have := ready_mono hj hji
      rw [H.1] at this
      cases this
  | succ fuel ih =>
    intro listed a w hfree hcl hr hy hS H
    refine ⟨fun h => (by rw [h] at hr; cases hr), fun j hj => ?_⟩
    by_cases hji : j = i
    · subst hji; exact hy.wpOp hi (hT listed w hcl (mem_ready.1 hr).1 hS) ⟨fun hu => hS (unl_mono hu), H⟩
    · have h1 := H.2 j (ready_mono hj hji)
      obtain ⟨hjun, oj, hoj, hall⟩ := mem_ready.1 hj
      have hnot : ∀ e ∈ oj.after, Region.binds .any e = true → e.on ≠ i := fun e he hb heq => by
        have h1 := hall e he hb
        have h0 := (mem_ready.1 hr).1
        rw [heq] at h1
        rcases Nat.lt_or_ge i listed.size with h' | h'
        · simp [h'] at h0 h1; rw [h0] at h1; cases h1
        · simp [Array.getElem?_eq_none h'] at h1
      have hcl' : Closed ops (listed.setIfInBounds j true) := fun k ok hk hkl e he hb => by
        by_cases hjk : j = k
        · subst hjk
          rw [hoj] at hk
          cases hk
          exact getD_set_true (hall e he hb)
        · rw [getD_set_ne false hjk] at hkl
          exact getD_set_true (hcl k ok hk hkl e he hb)
      have h2 := wpOp_putIf hoj (hfree j oj hoj hji hjun hnot) (fun cs b => hsel i oi cs b hi) (fun cs b => hsel j oj cs b hoj) hQ hy h1
      have hfree' : ∀ k ok, ops[k]? = some ok → k ≠ i → (listed.setIfInBounds j true).getD k true = false →
          (∀ e ∈ ok.after, Region.binds .any e = true → e.on ≠ i) → oi.apart ops ok = true := fun k ok hk hki hun hno => by
        refine hfree k ok hk hki ?_ hno
        by_cases hjk : j = k
        · subst hjk; exact hjun
        · rw [getD_set_ne true hjk] at hun; exact hun
      refine wpOp_mono (fun a' w' h3 => ?_) h2
      have hSw : unl Z (listed.setIfInBounds j true) → S w' := fun hu => h3.2.1 (by rw [Array.setIfInBounds_comm _ _ (Ne.symm hji)]; exact unl_swap hiZ hu)
      refine ⟨hSw, ih (listed.setIfInBounds j true) a' w' hfree' hcl' (ready_mono hr (Ne.symm hji)) h3.1 hSw ?_⟩
      rw [Array.setIfInBounds_comm _ _ hji]
      exact h3.2.2
theorem bstartZ (S : World → Prop) (Z : List Nat) {id : Nat} {a : Act} {w : World} (hm : P.follows .mixedOrders = true) (hh : wpZ P ops Q S Z ops.size (Array.replicate ops.size false) a w.drew) : (Code.region id ops true).wp P Q a w :=
  wp_region_any hm (wpAny_of_Z _ _ _ _ hh)
/-- each of Z waits for i: by the paths -/
def waitZ (ops : Array Oper) (Z : List Nat) (i : Nat) : List (List Nat) → Bool := fun pss => Z.length == pss.length && (Z.zip pss).all fun q => chainE ops q.1 q.2 i
def okTakeZ (ops : Array Oper) (listed : Array Bool) (Z : List Nat) (i : Nat) : Bool := okTake ops listed i && closedB ops listed && !Z.contains i
theorem waitZ_spec {listed : Array Bool} {i : Nat} {pss : List (List Nat)} (hz : waitZ ops Z i pss = true) (hcl : Closed ops listed) (hi : listed.getD i true = false) : unl Z listed := fun z hz' => by
  simp only [waitZ, Bool.and_eq_true, beq_iff_eq, List.all_eq_true] at hz
  obtain ⟨k, hk⟩ := List.getElem?_of_mem hz'
  have hlt := (List.getElem?_eq_some_iff.1 hk).1
  have hmem : (z, pss[k]'(by omega)) ∈ Z.zip pss := by
    refine List.mem_iff_getElem?.2 ⟨k, ?_⟩
    rw [List.getElem?_zip_eq_some]
    exact ⟨hk, List.getElem?_eq_getElem (by omega)⟩
  have hch := hz.2 _ hmem
  cases h2 : listed.getD z false with
  | false => rfl
  | true =>
    exfalso
    have h := chain_listed hcl _ _ _ (fun o' ho' => hcl _ o' ho' h2) hch
    rcases Nat.lt_or_ge i listed.size with h' | h'
    · simp [h'] at h hi; rw [hi] at h; cases h
    · simp [Array.getElem?_eq_none h'] at h
/-- what reads: all of Z wait for it -/
theorem btakeZ (i : Nat) (pss : List (List Nat)) {oi : Oper} {v : Value} {fuel : Nat} {listed : Array Bool} {a : Act} {w : World} (hi : ops[i]? = some oi) (hok : (okTakeZ ops listed Z i && waitZ ops Z i pss) = true)
    (hQ : ∀ c a w, Q (.panic c) (a.put oi.dst v) w → Q (.panic c) a w) (hS : S w)
    (hy : (Region.wanted oi (yielded ops a.tmps) = true ∧ ∀ W, S W → (execOp a.eval oi).run P W = .ok (.value v) W) ∨ (Region.wanted oi (yielded ops a.tmps) = false ∧ v = undef))
    (hr : wpZ P ops Q S Z fuel (listed.setIfInBounds i true) (a.put oi.dst v) w) : wpZ P ops Q S Z (fuel + 1) listed a w := by
  simp only [okTakeZ, okTake, Bool.and_eq_true, Bool.not_eq_true'] at hok
  obtain ⟨⟨⟨⟨⟨k1, k2⟩, k3⟩, k4⟩, k5⟩, k6⟩ := hok
  exact wpZ_first hi (by simpa using k5) (T := S) (fun l w' hcl hun hs => hs (waitZ_spec k6 hcl hun)) (Region.noSelect_spec k1) hQ fuel listed a w (Region.free_spec hi k2) (closed_of k4) (by simpa using k3) hy (fun _ => hS) hr
def unlB (Z : List Nat) (listed : Array Bool) : Bool := Z.all fun z => !listed.getD z false
theorem unlB_spec {listed : Array Bool} (h : unlB Z listed = false) : ¬ unl Z listed := fun hu => by
  have : unlB Z listed = true := List.all_eq_true.2 fun z hz => by rw [hu z hz]; rfl
  rw [this] at h; cases h
/-- what reads nothing -/
theorem btakeT (i : Nat) {oi : Oper} {v : Value} {fuel : Nat} {listed : Array Bool} {a : Act} {w : World} (hi : ops[i]? = some oi) (hok : okTakeZ ops listed Z i = true)
    (hQ : ∀ c a w, Q (.panic c) (a.put oi.dst v) w → Q (.panic c) a w) (hS : S w ∨ unlB Z listed = false)
    (hy : (Region.wanted oi (yielded ops a.tmps) = true ∧ ∀ W, True → (execOp a.eval oi).run P W = .ok (.value v) W) ∨ (Region.wanted oi (yielded ops a.tmps) = false ∧ v = undef))
    (hr : wpZ P ops Q S Z fuel (listed.setIfInBounds i true) (a.put oi.dst v) w) : wpZ P ops Q S Z (fuel + 1) listed a w := by
  simp only [okTakeZ, okTake, Bool.and_eq_true, Bool.not_eq_true'] at hok
  obtain ⟨⟨⟨⟨k1, k2⟩, k3⟩, k4⟩, k5⟩ := hok
  exact wpZ_first hi (by simpa using k5) (T := fun _ => True) (fun _ _ _ _ _ => trivial) (Region.noSelect_spec k1) hQ fuel listed a w (Region.free_spec hi k2) (closed_of k4) (by simpa using k3) hy (fun hu => hS.elim id (fun h => absurd hu (unlB_spec h))) hr
/-- a store: the only one that is ready -/
theorem bopZ (i : Nat) {o : Oper} {fuel : Nat} {listed : Array Bool} {a : Act} {w : World} (hi : ops[i]? = some o) (hok : okOp ops listed i = true)
    (hz : Z.contains i = true)
    (hw : Region.wanted o (yielded ops a.tmps) = true)
    (hr : ∀ K : Act → World → Prop, Shut (∀ a' w', wpZ P ops Q S Z fuel (listed.setIfInBounds i true) a' w' → K a' w') → o.wp P a w K Q) : wpZ P ops Q S Z (fuel + 1) listed a w := by
  have hok' : Region.ready .any ops listed = [i] := by simpa [okOp] using hok
  refine ⟨fun h0 => (by rw [hok'] at h0; cases h0), fun j hj => ?_⟩
  obtain rfl : j = i := by rw [hok'] at hj; simpa using hj
  unfold wpOp
  simp only [hi, hw, if_true]
  refine .inl (hr _ (fun a' w' hb => ⟨fun hu => ?_, hb⟩))
  exfalso
  have h1 := hu j (by simpa using hz)
  have h2 := (mem_ready.1 (show j ∈ Region.ready .any ops listed by rw [hok']; simp)).1
  rcases Nat.lt_or_ge j listed.size with h' | h'
  · simp [h'] at h1
  · simp [Array.getElem?_eq_none h'] at h2
/-- any other one that is ready alone -/
theorem bopY (i : Nat) {o : Oper} {fuel : Nat} {listed : Array Bool} {a : Act} {w : World} (hi : ops[i]? = some o) (hok : okOp ops listed i = true)
    (hw : Region.wanted o (yielded ops a.tmps) = true)
    (hr : ∀ K : Act → World → Prop, Shut (∀ a' w', S w' → wpZ P ops Q S Z fuel (listed.setIfInBounds i true) a' w' → K a' w') → o.wp P a w K Q) : wpZ P ops Q S Z (fuel + 1) listed a w := by
  have hok' : Region.ready .any ops listed = [i] := by simpa [okOp] using hok
  refine ⟨fun h0 => (by rw [hok'] at h0; cases h0), fun j hj => ?_⟩
  obtain rfl : j = i := by rw [hok'] at hj; simpa using hj
  unfold wpOp
  simp only [hi, hw, if_true]
  exact .inl (hr _ (fun a' w' hk hb => ⟨fun _ => hk, hb⟩))
theorem bdoneZ {fuel : Nat} {listed : Array Bool} {a : Act} {w : World} (hr : Region.ready .any ops listed = []) (hq : Q .normal a w) : wpZ P ops Q S Z fuel listed a w :=
  match fuel with
  | 0 => ⟨hr, hq⟩
  | _ + 1 => ⟨fun _ => hq, by rw [hr]; simp⟩
end
end Go.Proofs.Ythnbnhlfiehihaa
/- Disks: the document's Truncate. -/
namespace Go.Proofs.Ythnbnhlfiehihaa
open Go.RowKit Go.Maps
set_option maxRecDepth 20000

theorem FVat.first {W : World} {F H : Nat → Prop} {v : FV} (h : FVat W F H v) {n : Nat} (hn : n ≤ v.f.b.length) (s : Nat) : FVat W F H ⟨⟨v.f.b.take n, s⟩, v.g, n⟩ := by
  obtain ⟨h1, h2, h3, h4⟩ := h
  refine ⟨?_, ?_, Nat.le_trans hn (Nat.le_trans h2 h3), ?_⟩
  · show Sl W W.heap.size (adr v.g) (bv (v.f.b.take n))
    rw [← bv_take]
    exact h1.tk _
  · show (v.f.b.take n).length ≤ n
    rw [List.length_take]; omega
  · rcases h4 with h4 | h4
    · exact .inl (by show v.f.b.take n = []; rw [h4, List.take_nil])
    · exact .inr h4
theorem putN_twice {R : DR} (hr : RiseN R) {k : Nat} {x : Nm} {f : DF} (hk : R[k]? = some (x, f)) (a b : DF) : putN (putN R x a) x b = putN R x b ∧ (putN R x a)[k]? = some (x, a) := by
  have hlt := (List.getElem?_eq_some_iff.1 hk).1
  have h1 := put_at (m := a) hr hk
  have h2 : (putN R x a)[k]? = some (x, a) := by rw [← h1, List.getElem?_set_self hlt]
  refine ⟨?_, h2⟩
  rw [← put_at (m := b) (rise_putN hr x a) h2, ← h1, List.set_set, put_at hr hk]
theorem lenOf_some {s : DK} {x : Nm} {f : DF} (h : look s.R x = some f) : s.lenOf x = f.b.length := by simp [DK.lenOf, h, DF.len]
set_option maxRecDepth 100000 in
set_option maxHeartbeats 3200000 in
theorem DTruncate_any (w : World) (p : Nat) (F H : Nat → Prop) (s : DK) (n : Nat) (hD : DD w p F H s) (hok : s.ok n) (hn : n < 1000000) (x : Nm) (t : Int) (ht0 : -9223372036854775808 ≤ t) (ht1 : t ≤ 9223372036854775807) :
    Calls Try.prog 44 #[.pointer (some ⟨p, 0, none⟩), str x, .int .i64 t] w (DPost w p F H (s.truncate x t)) := by
  obtain ⟨q, hq⟩ : ∃ q, s.power.off = q := ⟨_, rfl⟩
  have hP := dgone_at w p F H s n hq hD hok
  cases q with
  | true =>
    have e1 : s.truncate x t = (34, s.power) := by simp [DK.truncate, hq]
    rw [e1]
    go_enter Try.func44, Try.ntmps44
    go_wp2_with (go_at_call 55; refine hP.mono ?_; rintro e w1 ⟨rfl, hp1, hg1⟩)
    go_ret
    exact ⟨rfl, .same hp1 hg1⟩
  | false =>
    cases hlk : look s.R x with
    | none =>
      have e1 : s.truncate x t = (31, s.power) := by simp [DK.truncate, hq, DK.has, hlk]
      rw [e1]
      have hx : look s.power.R x = none := by rw [power_R]; exact hlk
      go_enter Try.func44, Try.ntmps44
      go_wp2_with (first
        | (go_at_call 55; refine hP.mono ?_; rintro e w1 ⟨rfl, hp1, hg1⟩)
        | (go_at_call 54; refine (find_no _ p F H s.power n hp1 hok.power hn x hx).mono ?_; rintro e w2 ⟨rfl, rfl⟩))
      go_ret
      exact ⟨rfl, .same hp1 hg1⟩
    | some f =>
      obtain ⟨k, hk⟩ := look_idx hlk
      have hx : s.power.R[k]? = some (x, f) := by rw [power_R]; exact hk
      have hc0 := hok.power.files
      have hc1 := hok.power.calls
      have hx0 : (0 : Int) ≤ (k : Int) := by omega
      have hol := old_le hok.power x
      have hou := hok.power.used
      have hor := hok.power.room
      have hfo : s.power.fileOf x = f := by rw [power_file]; simp [DK.fileOf, hlk]
      rw [hfo] at hol
      by_cases hr : t < 0 ∨ (f.b.length : Int) < t
      · have e1 : s.truncate x t = (24, s.power) := by simp [DK.truncate, hq, DK.has, hlk, lenOf_some hlk, hr]
        rw [e1]
        go_enter Try.func44, Try.ntmps44
        by_cases ht : t < 0
        · have hd : decide (t < 0) = true := decide_eq_true ht
          go_wp2_with (first
            | (go_at_call 55; refine hP.mono ?_; rintro e w1 ⟨rfl, hp1, hg1⟩)
            | (go_at_call 54; refine (find_at _ p F H s.power n hp1 hok.power hn x hx).mono ?_; rintro e w2 ⟨rfl, rfl⟩))
          go_ret
          exact ⟨rfl, .same hp1 hg1⟩
        · have hd : decide (t < 0) = false := decide_eq_false ht
          have hd2 : decide ((f.b.length : Int) < t) = true := decide_eq_true (hr.resolve_left ht)
          go_wp2_with (first
            | (go_at_call 55; refine hP.mono ?_; rintro e w1 ⟨rfl, hp1, hg1⟩)
            | (go_at_call 54; refine (find_at _ p F H s.power n hp1 hok.power hn x hx).mono ?_; rintro e w2 ⟨rfl, rfl⟩; obtain ⟨g, m, c, v, hA, -, hkm, -, -, -, -, -, -, -, c1, -⟩ := DD.file _ p F H s.power hp1 hx; have b1 := hA.c 1 rfl; clear hA; have hx1 : (k : Int) < (m : Int) := by omega))
          go_ret
          exact ⟨rfl, .same hp1 hg1⟩
      · obtain ⟨tn, rfl⟩ : ∃ tn : Nat, t = (tn : Int) := ⟨t.toNat, by omega⟩
        have htl : tn ≤ f.b.length := by omega
        have e1 : s.truncate x tn = (0, s.power.lay (putN s.power.R x (f.first tn))) := by
          unfold DK.truncate
          rw [hq, lenOf_some hlk, if_neg hr]
          simp [DK.has, hlk, mapR, power_R]
        rw [e1]
        have hd2 : decide ((f.b.length : Int) < (tn : Int)) = false := by simp; omega
        go_enter Try.func44, Try.ntmps44
        go_wp2_with (first
          | (go_at_call 55; refine hP.mono ?_; rintro e w1 ⟨rfl, hp1, hg1⟩)
          | (go_at_call 54; refine (find_at _ p F H s.power n hp1 hok.power hn x hx).mono ?_; rintro e w2 ⟨rfl, rfl⟩; obtain ⟨g, m, c, v, hA, -, hkm, hFg, hgp, hgl, rfl, hv, ⟨G, hrow, hG, hGk, hvs, hGm, hmc, hcm⟩, -, c1, -⟩ := DD.file _ p F H s.power hp1 hx; have b1 := hA.c 1 rfl; have hx1 : (k : Int) < (m : Int) := by omega))
        obtain ⟨fl, hfl⟩ : ∃ fl, v.f.b.length = fl := ⟨_, rfl⟩
        have hpl := hA.1
        have hcap : tn ≤ v.c := Nat.le_trans htl hv.2.1
        have HD := Lib.hid (And.intro hp1 (And.intro hA (And.intro hFg (And.intro hgp (And.intro hrow (And.intro hG (And.intro hGk (And.intro hvs (And.intro hGm (And.intro hmc (And.intro hcm (And.intro hv (And.intro hg1 (And.intro htl (And.intro hx hfl)))))))))))))))
        have hS0 : QD w2 g p (EK.dv G) (boxD (some ⟨g, 0, none⟩) m c s.power) w2.drew := ⟨hrow, hA, Nat.le_refl _⟩
        have e4 : ∀ W, QD w2 g p (EK.dv G) (boxD (some ⟨g, 0, none⟩) m c s.power) W → W.cell? ⟨p, 1, none⟩ = some (.slice (some ⟨g, 0, none⟩) m c) := fun W h => h.2.1.c 1 rfl
        have e5 : ∀ W, QD w2 g p (EK.dv G) (boxD (some ⟨g, 0, none⟩) m c s.power) W → W.cell? ⟨g, k * 3 + 1, none⟩ = some (.slice (adr v.g) fl v.c) := fun W h => by rw [← hfl]; exact row_c h HD.out.2.2.2.2.2.2.1 (by omega) rfl
        have e6 : ∀ W, QD w2 g p (EK.dv G) (boxD (some ⟨g, 0, none⟩) m c s.power) W → W.cell? ⟨g, k * 3 + 2, none⟩ = some (.int .i64 (v.f.s : Int)) := fun W h => row_c h HD.out.2.2.2.2.2.2.1 (by omega) rfl
        have zc := row_c (j := 1) hS0 hGk (by omega) rfl
        have zf := row_f (j := 1) hS0 hGk (by omega) rfl
        have hrw := hrow.1
        clear hp1 hA hFg hgp hrow hG hGk hvs hGm hmc hcm hv hg1 hP htl hx hfl b1 c1 hol hfo hlk e1 hk hr hd2
        refine bstartZ (QD w2 g p (EK.dv G) (boxD (some ⟨g, 0, none⟩) m c s.power)) [33, 36] (by kernel_rfl) ?_
        refine btakeZ 0 [[], []] (oi := _) (v := ?_) (by simp only [List.getElem?_toArray, List.getElem?_cons_zero]; rfl) (by kernel_rfl) (by exact fun _ _ _ h => h) (by first | assumption | exact KB.refl _) (.inl ⟨by rfl, fun W hW => ?_⟩) ?_; rotate_left
        · (go_simp; first | done | with_reducible rfl)
        try simp only [Act.put, List.setIfInBounds_toArray, List.set_cons_zero, List.set_cons_succ]
        refine btakeZ 1 [[], []] (oi := _) (v := ?_) (by simp only [List.getElem?_toArray, List.getElem?_cons_succ, List.getElem?_cons_zero]; rfl) (by kernel_rfl) (by exact fun _ _ _ h => h) (by first | assumption | exact KB.refl _) (.inl ⟨by rfl, fun W hW => ?_⟩) ?_; rotate_left
        · (go_simp; first | done | with_reducible rfl)
        try simp only [Act.put, List.setIfInBounds_toArray, List.set_cons_zero, List.set_cons_succ]
        refine btakeZ 2 [[], []] (oi := _) (v := ?_) (by simp only [List.getElem?_toArray, List.getElem?_cons_succ, List.getElem?_cons_zero]; rfl) (by kernel_rfl) (by exact fun _ _ _ h => h) (by first | assumption | exact KB.refl _) (.inl ⟨by rfl, fun W hW => ?_⟩) ?_; rotate_left
        · (go_simp; first | done | with_reducible rfl)
        try simp only [Act.put, List.setIfInBounds_toArray, List.set_cons_zero, List.set_cons_succ]
        refine btakeZ 3 [[], []] (oi := _) (v := ?_) (by simp only [List.getElem?_toArray, List.getElem?_cons_succ, List.getElem?_cons_zero]; rfl) (by kernel_rfl) (by exact fun _ _ _ h => h) (by first | assumption | exact KB.refl _) (.inl ⟨by rfl, fun W hW => ?_⟩) ?_; rotate_left
        · (go_simp; first | done | with_reducible rfl)
        try simp only [Act.put, List.setIfInBounds_toArray, List.set_cons_zero, List.set_cons_succ]
        refine btakeZ 4 [[], []] (oi := _) (v := ?_) (by simp only [List.getElem?_toArray, List.getElem?_cons_succ, List.getElem?_cons_zero]; rfl) (by kernel_rfl) (by exact fun _ _ _ h => h) (by first | assumption | exact KB.refl _) (.inl ⟨by rfl, fun W hW => ?_⟩) ?_; rotate_left
        · (go_simp; first | done | with_reducible rfl)
        try simp only [Act.put, List.setIfInBounds_toArray, List.set_cons_zero, List.set_cons_succ]
        refine btakeZ 5 [[8, 7, 6], []] (oi := _) (v := ?_) (by simp only [List.getElem?_toArray, List.getElem?_cons_succ, List.getElem?_cons_zero]; rfl) (by kernel_rfl) (by exact fun _ _ _ h => h) (by first | assumption | exact KB.refl _) (.inl ⟨by rfl, fun W hW => ?_⟩) ?_; rotate_left
        · (go_simp; first | done | with_reducible rfl)
        try simp only [Act.put, List.setIfInBounds_toArray, List.set_cons_zero, List.set_cons_succ]
        refine btakeZ 6 [[8, 7], []] (oi := _) (v := ?_) (by simp only [List.getElem?_toArray, List.getElem?_cons_succ, List.getElem?_cons_zero]; rfl) (by kernel_rfl) (by exact fun _ _ _ h => h) (by first | assumption | exact KB.refl _) (.inl ⟨by rfl, fun W hW => ?_⟩) ?_; rotate_left
        · (go_simp; first | done | with_reducible rfl)
        try simp only [Act.put, List.setIfInBounds_toArray, List.set_cons_zero, List.set_cons_succ]
        refine btakeZ 7 [[8], []] (oi := _) (v := ?_) (by simp only [List.getElem?_toArray, List.getElem?_cons_succ, List.getElem?_cons_zero]; rfl) (by kernel_rfl) (by exact fun _ _ _ h => h) (by first | assumption | exact KB.refl _) (.inl ⟨by rfl, fun W hW => ?_⟩) ?_; rotate_left
        · (go_simp; first | done | with_reducible rfl)
        try simp only [Act.put, List.setIfInBounds_toArray, List.set_cons_zero, List.set_cons_succ]
        refine btakeZ 8 [[], []] (oi := _) (v := ?_) (by simp only [List.getElem?_toArray, List.getElem?_cons_succ, List.getElem?_cons_zero]; rfl) (by kernel_rfl) (by exact fun _ _ _ h => h) (by first | assumption | exact KB.refl _) (.inl ⟨by rfl, fun W hW => ?_⟩) ?_; rotate_left
        · (go_simp; first | done | with_reducible rfl)
        try simp only [Act.put, List.setIfInBounds_toArray, List.set_cons_zero, List.set_cons_succ]
        refine btakeT 9 (oi := _) (v := ?_) (by simp only [List.getElem?_toArray, List.getElem?_cons_succ, List.getElem?_cons_zero]; rfl) (by kernel_rfl) (by exact fun _ _ _ h => h) (by first | exact .inl (by assumption) | exact .inr (by kernel_rfl)) (.inl ⟨by rfl, fun W hW => ?_⟩) ?_; rotate_left
        · (go_simp; first | done | with_reducible rfl)
        try simp only [Act.put, List.setIfInBounds_toArray, List.set_cons_zero, List.set_cons_succ]
        refine btakeZ 10 [[], []] (oi := _) (v := ?_) (by simp only [List.getElem?_toArray, List.getElem?_cons_succ, List.getElem?_cons_zero]; rfl) (by kernel_rfl) (by exact fun _ _ _ h => h) (by first | assumption | exact KB.refl _) (.inl ⟨by rfl, fun W hW => ?_⟩) ?_; rotate_left
        · (go_simp; first | done | with_reducible rfl)
        try simp only [Act.put, List.setIfInBounds_toArray, List.set_cons_zero, List.set_cons_succ]
        refine btakeZ 11 [[], []] (oi := _) (v := ?_) (by simp only [List.getElem?_toArray, List.getElem?_cons_succ, List.getElem?_cons_zero]; rfl) (by kernel_rfl) (by exact fun _ _ _ h => h) (by first | assumption | exact KB.refl _) (.inl ⟨by rfl, fun W hW => ?_⟩) ?_; rotate_left
        · (go_simp; first | done | with_reducible rfl)
        try simp only [Act.put, List.setIfInBounds_toArray, List.set_cons_zero, List.set_cons_succ]
        refine btakeZ 12 [[], []] (oi := _) (v := ?_) (by simp only [List.getElem?_toArray, List.getElem?_cons_succ, List.getElem?_cons_zero]; rfl) (by kernel_rfl) (by exact fun _ _ _ h => h) (by first | assumption | exact KB.refl _) (.inl ⟨by rfl, fun W hW => ?_⟩) ?_; rotate_left
        · (go_simp; first | done | with_reducible rfl)
        try simp only [Act.put, List.setIfInBounds_toArray, List.set_cons_zero, List.set_cons_succ]
        refine btakeZ 13 [[], []] (oi := _) (v := ?_) (by simp only [List.getElem?_toArray, List.getElem?_cons_succ, List.getElem?_cons_zero]; rfl) (by kernel_rfl) (by exact fun _ _ _ h => h) (by first | assumption | exact KB.refl _) (.inl ⟨by rfl, fun W hW => ?_⟩) ?_; rotate_left
        · (go_simp; first | done | with_reducible rfl)
        try simp only [Act.put, List.setIfInBounds_toArray, List.set_cons_zero, List.set_cons_succ]
        refine btakeZ 14 [[], []] (oi := _) (v := ?_) (by simp only [List.getElem?_toArray, List.getElem?_cons_succ, List.getElem?_cons_zero]; rfl) (by kernel_rfl) (by exact fun _ _ _ h => h) (by first | assumption | exact KB.refl _) (.inl ⟨by rfl, fun W hW => ?_⟩) ?_; rotate_left
        · (go_simp; first | done | with_reducible rfl)
        try simp only [Act.put, List.setIfInBounds_toArray, List.set_cons_zero, List.set_cons_succ]
        refine btakeZ 15 [[], []] (oi := _) (v := ?_) (by simp only [List.getElem?_toArray, List.getElem?_cons_succ, List.getElem?_cons_zero]; rfl) (by kernel_rfl) (by exact fun _ _ _ h => h) (by first | assumption | exact KB.refl _) (.inl ⟨by rfl, fun W hW => ?_⟩) ?_; rotate_left
        · (go_simp; first | done | with_reducible rfl)
        try simp only [Act.put, List.setIfInBounds_toArray, List.set_cons_zero, List.set_cons_succ]
        refine btakeZ 16 [[], []] (oi := _) (v := ?_) (by simp only [List.getElem?_toArray, List.getElem?_cons_succ, List.getElem?_cons_zero]; rfl) (by kernel_rfl) (by exact fun _ _ _ h => h) (by first | assumption | exact KB.refl _) (.inl ⟨by rfl, fun W hW => ?_⟩) ?_; rotate_left
        · (go_simp; first | done | with_reducible rfl)
        try simp only [Act.put, List.setIfInBounds_toArray, List.set_cons_zero, List.set_cons_succ]
        refine btakeZ 17 [[], []] (oi := _) (v := ?_) (by simp only [List.getElem?_toArray, List.getElem?_cons_succ, List.getElem?_cons_zero]; rfl) (by kernel_rfl) (by exact fun _ _ _ h => h) (by first | assumption | exact KB.refl _) (.inl ⟨by rfl, fun W hW => ?_⟩) ?_; rotate_left
        · (go_simp; first | done | with_reducible rfl)
        try simp only [Act.put, List.setIfInBounds_toArray, List.set_cons_zero, List.set_cons_succ]
        refine btakeZ 18 [[], []] (oi := _) (v := ?_) (by simp only [List.getElem?_toArray, List.getElem?_cons_succ, List.getElem?_cons_zero]; rfl) (by kernel_rfl) (by exact fun _ _ _ h => h) (by first | assumption | exact KB.refl _) (.inl ⟨by rfl, fun W hW => ?_⟩) ?_; rotate_left
        · (go_simp; first | done | with_reducible rfl)
        try simp only [Act.put, List.setIfInBounds_toArray, List.set_cons_zero, List.set_cons_succ]
        refine btakeZ 19 [[], []] (oi := _) (v := ?_) (by simp only [List.getElem?_toArray, List.getElem?_cons_succ, List.getElem?_cons_zero]; rfl) (by kernel_rfl) (by exact fun _ _ _ h => h) (by first | assumption | exact KB.refl _) (.inl ⟨by rfl, fun W hW => ?_⟩) ?_; rotate_left
        · (go_simp; first | done | with_reducible rfl)
        try simp only [Act.put, List.setIfInBounds_toArray, List.set_cons_zero, List.set_cons_succ]
        refine btakeZ 20 [[], []] (oi := _) (v := ?_) (by simp only [List.getElem?_toArray, List.getElem?_cons_succ, List.getElem?_cons_zero]; rfl) (by kernel_rfl) (by exact fun _ _ _ h => h) (by first | assumption | exact KB.refl _) (.inl ⟨by rfl, fun W hW => ?_⟩) ?_; rotate_left
        · refine Eq.trans (exec_preB (x := .tmp 47) (y := .tmp 48) (z := .tmp 49) (A := adr v.g) (m := fl) (c := v.c) (j := tn) ?_ ?_ ?_ ?_ hcap _) ?_ <;> first | rfl | with_reducible rfl
        try simp only [Act.put, List.setIfInBounds_toArray, List.set_cons_zero, List.set_cons_succ]
        refine btakeZ 21 [[24, 23, 22], []] (oi := _) (v := ?_) (by simp only [List.getElem?_toArray, List.getElem?_cons_succ, List.getElem?_cons_zero]; rfl) (by kernel_rfl) (by exact fun _ _ _ h => h) (by first | assumption | exact KB.refl _) (.inl ⟨by rfl, fun W hW => ?_⟩) ?_; rotate_left
        · (go_simp; first | done | with_reducible rfl)
        try simp only [Act.put, List.setIfInBounds_toArray, List.set_cons_zero, List.set_cons_succ]
        refine btakeZ 22 [[24, 23], []] (oi := _) (v := ?_) (by simp only [List.getElem?_toArray, List.getElem?_cons_succ, List.getElem?_cons_zero]; rfl) (by kernel_rfl) (by exact fun _ _ _ h => h) (by first | assumption | exact KB.refl _) (.inl ⟨by rfl, fun W hW => ?_⟩) ?_; rotate_left
        · (go_simp; first | done | with_reducible rfl)
        try simp only [Act.put, List.setIfInBounds_toArray, List.set_cons_zero, List.set_cons_succ]
        refine btakeZ 23 [[24], []] (oi := _) (v := ?_) (by simp only [List.getElem?_toArray, List.getElem?_cons_succ, List.getElem?_cons_zero]; rfl) (by kernel_rfl) (by exact fun _ _ _ h => h) (by first | assumption | exact KB.refl _) (.inl ⟨by rfl, fun W hW => ?_⟩) ?_; rotate_left
        · (go_simp; first | done | with_reducible rfl)
        try simp only [Act.put, List.setIfInBounds_toArray, List.set_cons_zero, List.set_cons_succ]
        refine btakeZ 24 [[], []] (oi := _) (v := ?_) (by simp only [List.getElem?_toArray, List.getElem?_cons_succ, List.getElem?_cons_zero]; rfl) (by kernel_rfl) (by exact fun _ _ _ h => h) (by first | assumption | exact KB.refl _) (.inl ⟨by rfl, fun W hW => ?_⟩) ?_; rotate_left
        · (go_simp; first | done | with_reducible rfl)
        try simp only [Act.put, List.setIfInBounds_toArray, List.set_cons_zero, List.set_cons_succ]
        refine btakeZ 25 [[28, 27, 26], []] (oi := _) (v := ?_) (by simp only [List.getElem?_toArray, List.getElem?_cons_succ, List.getElem?_cons_zero]; rfl) (by kernel_rfl) (by exact fun _ _ _ h => h) (by first | assumption | exact KB.refl _) (.inl ⟨by rfl, fun W hW => ?_⟩) ?_; rotate_left
        · (go_simp; first | done | with_reducible rfl)
        try simp only [Act.put, List.setIfInBounds_toArray, List.set_cons_zero, List.set_cons_succ]
        refine btakeZ 26 [[28, 27], []] (oi := _) (v := ?_) (by simp only [List.getElem?_toArray, List.getElem?_cons_succ, List.getElem?_cons_zero]; rfl) (by kernel_rfl) (by exact fun _ _ _ h => h) (by first | assumption | exact KB.refl _) (.inl ⟨by rfl, fun W hW => ?_⟩) ?_; rotate_left
        · (go_simp; first | done | with_reducible rfl)
        try simp only [Act.put, List.setIfInBounds_toArray, List.set_cons_zero, List.set_cons_succ]
        refine btakeZ 27 [[28], []] (oi := _) (v := ?_) (by simp only [List.getElem?_toArray, List.getElem?_cons_succ, List.getElem?_cons_zero]; rfl) (by kernel_rfl) (by exact fun _ _ _ h => h) (by first | assumption | exact KB.refl _) (.inl ⟨by rfl, fun W hW => ?_⟩) ?_; rotate_left
        · (go_simp; first | done | with_reducible rfl)
        try simp only [Act.put, List.setIfInBounds_toArray, List.set_cons_zero, List.set_cons_succ]
        refine btakeZ 28 [[], []] (oi := _) (v := ?_) (by simp only [List.getElem?_toArray, List.getElem?_cons_succ, List.getElem?_cons_zero]; rfl) (by kernel_rfl) (by exact fun _ _ _ h => h) (by first | assumption | exact KB.refl _) (.inl ⟨by rfl, fun W hW => ?_⟩) ?_; rotate_left
        · (go_simp; first | done | with_reducible rfl)
        try simp only [Act.put, List.setIfInBounds_toArray, List.set_cons_zero, List.set_cons_succ]
        refine btakeT 29 (oi := _) (v := ?_) (by simp only [List.getElem?_toArray, List.getElem?_cons_succ, List.getElem?_cons_zero]; rfl) (by kernel_rfl) (by exact fun _ _ _ h => h) (by first | exact .inl (by assumption) | exact .inr (by kernel_rfl)) (.inl ⟨by rfl, fun W hW => ?_⟩) ?_; rotate_left
        · (go_simp; first | done | with_reducible rfl)
        try simp only [Act.put, List.setIfInBounds_toArray, List.set_cons_zero, List.set_cons_succ]
        refine btakeT 30 (oi := _) (v := ?_) (by simp only [List.getElem?_toArray, List.getElem?_cons_succ, List.getElem?_cons_zero]; rfl) (by kernel_rfl) (by exact fun _ _ _ h => h) (by first | exact .inl (by assumption) | exact .inr (by kernel_rfl)) (.inl ⟨by rfl, fun W hW => ?_⟩) ?_; rotate_left
        · (go_simp; first | done | with_reducible rfl)
        try simp only [Act.put, List.setIfInBounds_toArray, List.set_cons_zero, List.set_cons_succ]
        refine btakeZ 31 [[32], []] (oi := _) (v := ?_) (by simp only [List.getElem?_toArray, List.getElem?_cons_succ, List.getElem?_cons_zero]; rfl) (by kernel_rfl) (by exact fun _ _ _ h => h) (by first | assumption | exact KB.refl _) (.inl ⟨by rfl, fun W hW => ?_⟩) ?_; rotate_left
        · (go_simp; first | done | with_reducible rfl)
        try simp only [Act.put, List.setIfInBounds_toArray, List.set_cons_zero, List.set_cons_succ]
        refine btakeZ 32 [[], []] (oi := _) (v := ?_) (by simp only [List.getElem?_toArray, List.getElem?_cons_succ, List.getElem?_cons_zero]; rfl) (by kernel_rfl) (by exact fun _ _ _ h => h) (by first | assumption | exact KB.refl _) (.inl ⟨by rfl, fun W hW => ?_⟩) ?_; rotate_left
        · (go_simp; first | done | with_reducible rfl)
        try simp only [Act.put, List.setIfInBounds_toArray, List.set_cons_zero, List.set_cons_succ]
        -- 33: Op.store 22 (Operand.tmp 62) (Operand.tmp 50)
        refine bopZ 33 (o := _) (by simp only [List.getElem?_toArray, List.getElem?_cons_succ, List.getElem?_cons_zero]; rfl) (by kernel_rfl) (by rfl) (by rfl) (fun K hK => ?_)
        go_simp
        have hw3 : At (w2.setCell ⟨g, k * 3 + 1, none⟩ (.slice (adr v.g) tn tn)) g ((EK.dv G).set (k * 3 + 1) (.slice (adr v.g) tn tn)) := by
          refine At.set HD.out.2.2.2.2.1 _ _ ?_
          have h1 := (List.getElem?_eq_some_iff.1 HD.out.2.2.2.2.2.2.1).1
          rw [EK.dv_len]
          show k * 3 + 1 < G.length * 3
          omega
        have hc2 : ((EK.dv G).set (k * 3 + 1) (.slice (adr v.g) tn tn))[k * 3 + 2]? = some (.int .i64 (v.f.s : Int)) := by
          rw [List.getElem?_set_ne (by omega)]
          exact (EK.dv_get G k 2 _ HD.out.2.2.2.2.2.2.1 (by show 2 < 3; omega)).trans rfl
        have zc2 := hw3.c _ hc2
        have zf2 := hw3.f _ hc2
        clear hw3 hc2
        refine hK.out _ _ ?_; clear hK K
        try simp only [Act.put, List.setIfInBounds_toArray, List.set_cons_zero, List.set_cons_succ]
        refine btakeT 34 (oi := _) (v := ?_) (by simp only [List.getElem?_toArray, List.getElem?_cons_succ, List.getElem?_cons_zero]; rfl) (by kernel_rfl) (by exact fun _ _ _ h => h) (by first | exact .inl (by assumption) | exact .inr (by kernel_rfl)) (.inl ⟨by rfl, fun W hW => ?_⟩) ?_; rotate_left
        · (go_simp; first | done | with_reducible rfl)
        try simp only [Act.put, List.setIfInBounds_toArray, List.set_cons_zero, List.set_cons_succ]
        refine btakeT 35 (oi := _) (v := ?_) (by simp only [List.getElem?_toArray, List.getElem?_cons_succ, List.getElem?_cons_zero]; rfl) (by kernel_rfl) (by exact fun _ _ _ h => h) (by first | exact .inl (by assumption) | exact .inr (by kernel_rfl)) (.inl ⟨by rfl, fun W hW => ?_⟩) ?_; rotate_left
        · (go_simp; first | done | with_reducible rfl)
        try simp only [Act.put, List.setIfInBounds_toArray, List.set_cons_zero, List.set_cons_succ]
        -- 36: Op.store 3 (Operand.tmp 64) (Operand.tmp 60)
        refine bopZ 36 (o := _) (by simp only [List.getElem?_toArray, List.getElem?_cons_succ, List.getElem?_cons_zero]; rfl) (by kernel_rfl) (by rfl) (by rfl) (fun K hK => ?_)
        go_simp
        skip
        refine hK.out _ _ ?_; clear hK K
        try simp only [Act.put, List.setIfInBounds_toArray, List.set_cons_zero, List.set_cons_succ]
        refine bdoneZ (by kernel_rfl) ?_
        obtain ⟨mn, hmn⟩ : ∃ mn : Int, (if tn < v.f.s then (tn : Int) else (v.f.s : Int)) = mn := ⟨_, rfl⟩
        have hmn2 : min (v.f.s : Int) (tn : Int) = mn := by rw [← hmn]; split <;> omega
        have hmn3 : ((min v.f.s tn : Nat) : Int) = mn := by omega
        first | rw [hmn] | rw [hmn2] | rw [hmn3]
        clear hmn2 hmn3
        clear zc zf zc2 zf2 e4 e5 e6 hS0
        obtain ⟨hp1, hA, hFg, hgp, hrow, hG, hGk, hvs, hGm, hmc, hcm, hv, hg1, htl, hx, hfl⟩ := HD.out
        have htk : (v.f.b.take tn).length = tn := by rw [List.length_take]; omega
        obtain ⟨ht1, ht2⟩ := putN_twice hok.power.rise hx ⟨v.f.b.take tn, v.f.s⟩ (v.f.first tn)
        obtain ⟨F3, H3, hp3, hm3⟩ := ddp_cell (w6 := w2) (s' := { s.power with R := putN s.power.R x ⟨v.f.b.take tn, v.f.s⟩ }) (v' := ⟨⟨v.f.b.take tn, v.f.s⟩, v.g, tn⟩) (j := 1) (u := .slice (adr v.g) tn tn) hp1 hA hFg hgp hrow hGk hvs hGm hmc hcm (Below.refl _ _) (by omega) (by simp [NF.cells, htk]) ((hv.first htl _).mono (fun _ => .inl) (fun _ _ => id)) rfl (file_set hok.power.rise hG hGk)
        have hb3 := (hA.set_other (k * 3 + 1) (.slice (adr v.g) tn tn) hgp).c 1 rfl
        obtain ⟨g3, m3, c3, v3, hA3, -, -, hFg3, hgp3, -, hvf3, hv3, ⟨G3, hrow3, hG3, hGk3, hvs3, hGm3, hmc3, hcm3⟩, -⟩ := DD.file _ p F3 H3 _ hp3 ht2
        have hb4 := hA3.c 1 rfl
        rw [hb3] at hb4
        obtain rfl : g = g3 := by injection hb4 with hb4; injection hb4 with hb4; injection hb4 with hb4; injection hb4
        obtain ⟨F5, H5, hp5, hm5⟩ := (ddp_cell (s' := { s.power with R := putN s.power.R x (v.f.first tn) }) (v' := ⟨v.f.first tn, v3.g, v3.c⟩) (j := 2) (u := .int .i64 mn) hp3 hA3 hFg3 hgp3 hrow3 hGk3 hvs3 hGm3 hmc3 hcm3 (Below.refl _ _) (by omega) (by
            simp only [NF.cells, DF.first, hvf3, List.set_cons_succ, List.set_cons_zero]
            congr 4
            rw [← hmn]
            split <;> omega) (by
            have h := hv3.mono (F' := F3) (H' := HN H3 (w2.setCell ⟨g, k * 3 + 1, none⟩ (.slice (adr v.g) tn tn)) (w2.setCell ⟨g, k * 3 + 1, none⟩ (.slice (adr v.g) tn tn))) (fun _ => .inl) (fun _ _ => id)
            obtain ⟨k1, k2, k3, k4⟩ := h
            rw [hvf3] at k1 k2 k4
            exact ⟨k1, k2, k3, k4⟩) rfl ((file_set (rise_putN hok.power.rise _ _) hG3 hGk3).trans ht1)).drew
        have HM := Lib.hid (And.intro hg1 (And.intro hm3 hm5))
        clear hp1 hA hFg hgp hrow hG hGk hvs hGm hmc hcm hv HD hg1 hfl hm3 hm5 hp3 hA3 hFg3 hgp3 hrow3 hG3 hGk3 hvs3 hGm3 hmc3 hcm3 hv3 hb3 hb4 hvf3 ht1 ht2 htk hx hmn
        go_wp2_with (go_at_call 57; refine (well_any _ p F5 H5 _ hp5 (by dsimp only; omega) (by dsimp only; omega)).mono ?_; rintro e w4 ⟨rfl, hp6, hg6⟩)
        go_ret
        exact ⟨rfl, .trans (((Moved.same HM.out.1).trans HM.out.2.1).trans HM.out.2.2) (.same hp6 hg6)⟩
end Go.Proofs.Ythnbnhlfiehihaa
/- Disks: the document's Rename. -/
namespace Go.Proofs.Ythnbnhlfiehihaa
open Go.RowKit Go.Maps
set_option maxRecDepth 20000

theorem putN_lt {β : Type} {R : List (Nm × β)} {x : Nm} (f : β) (h : ∀ p ∈ R, x < p.1) : putN R x f = (x, f) :: R := by
  cases R with
  | nil => rfl
  | cons p R =>
    obtain ⟨y, c⟩ := p
    have h1 := h (y, c) (by simp)
    unfold putN
    rw [if_neg (nm_asymm h1), if_neg (fun e => nm_ne h1 e.symm)]
theorem putN_del {β : Type} {R : List (Nm × β)} (h : RiseN R) (y : Nm) (f : β) : putN (delA R y) y f = putN R y f := by
  induction R with
  | nil => rfl
  | cons q R ih =>
    obtain ⟨z, c⟩ := q
    obtain ⟨h1, h2⟩ := List.pairwise_cons.1 h
    have hall : ∀ p ∈ R, y = z → delA R y = R := fun p hp e => delA_none (lookN_lt (fun p hp => e ▸ h1 p hp))
    unfold delA
    rw [List.filter_cons]
    by_cases e : z = y
    · subst e
      have hd : delA R z = R := delA_none (lookN_lt (fun p hp => h1 p hp))
      unfold delA at hd
      rw [if_neg (by simp), hd, putN_lt f (fun p hp => h1 p hp)]
      unfold putN
      rw [if_neg (nm_irrefl z), if_pos rfl]
    · rw [if_pos (by simpa using e)]
      unfold putN
      by_cases hz : z < y
      · rw [if_pos hz, if_pos hz]
        have := ih h2
        unfold delA at this
        rw [this]
      · have hyz : y < z := Classical.byContradiction fun hx => e (nm_total hz hx)
        have hd : delA R y = R := delA_none (lookN_lt (fun p hp => nm_trans hyz (h1 p hp)))
        unfold delA at hd
        rw [if_neg hz, if_neg hz, if_neg e, if_neg e, hd]
theorem putN_self {R : DR} (h : RiseN R) {k : Nat} {x : Nm} {f : DF} (hk : R[k]? = some (x, f)) : putN R x f = R := by
  rw [← put_at h hk]
  apply List.ext_getElem?
  intro i
  by_cases e : k = i
  · subst e
    rw [List.getElem?_set_self (List.getElem?_eq_some_iff.1 hk).1, hk]
  · rw [List.getElem?_set_ne e]
theorem FVat.moved {F H F' H' : Nat → Prop} {W W' : World} {v : FV} (h : FVat W F H v) (hm : Moved F H F' H' W W') (hlt : ∀ k, H k → k < W.heap.size) : FVat W' F' (fun k => H' k ∨ H k) v := by
  obtain ⟨h1, h2, h3, h4⟩ := h
  rcases h4 with h4 | ⟨p, hp, hH, hF⟩
  · exact ⟨.inl (by rw [h4]; rfl), h2, h3, .inl h4⟩
  · refine ⟨?_, h2, h3, .inr ⟨p, hp, .inr hH, fun hk => ?_⟩⟩
    · rw [hp] at h1 ⊢
      exact (Sl.grewN h1 hm.g hF).more hm.g.size
    · rcases hm.f _ hk with hk | hk
      · exact hF hk
      · have := hlt _ hH; omega
/-- as DDP, and what was held stays held -/
theorem DDP.keep {w w' : World} {d : Nat} {F H : Nat → Prop} {s' : DK} (h : DDP w d F H s' w') (hlt : ∀ k, H k → k < w.heap.size) : ∃ F' H' : Nat → Prop, DD w' d F' H' s' ∧ Moved F H F' H' w w' ∧ (∀ v, FVat w F H v → FVat w' F' H' v) ∧ ∀ k, H k → H' k := by
  obtain ⟨F', H', h1, h2⟩ := h
  refine ⟨F', fun k => H' k ∨ H k, h1.more (fun k => .inl) (fun k hk => hk.elim (h1.lt k) (fun hk => Nat.lt_of_lt_of_le (hlt k hk) h2.g.size)), ⟨h2.f, fun i hi => hi.elim (h2.h i) .inl, h2.g⟩, fun v hv => hv.moved h2 hlt, fun k => .inr⟩
theorem Moved.put {F H F' H' : Nat → Prop} {w w' : World} (h : Moved F H F' H' w w') {g o : Nat} (hg : w.heap.size ≤ g) (v : Value) : Moved F H F' H' w (w'.setCell ⟨g, o, none⟩ v) := ⟨h.f, h.h, h.g.put (.inr hg) v⟩
set_option maxRecDepth 100000 in
set_option maxHeartbeats 3200000 in
theorem DRename_any (w : World) (p : Nat) (F H : Nat → Prop) (s : DK) (n : Nat) (hD : DD w p F H s) (hok : s.ok n) (hn : n < 1000000) (x y : Nm) :
    Calls Try.prog 46 #[.pointer (some ⟨p, 0, none⟩), str x, str y] w (DPost w p F H (s.rename x y)) := by
  obtain ⟨q, hq⟩ : ∃ q, s.power.off = q := ⟨_, rfl⟩
  have hP := dgone_at w p F H s n hq hD hok
  cases q with
  | true =>
    have e1 : s.rename x y = (34, s.power) := by simp [DK.rename, hq]
    rw [e1]
    go_enter Try.func46, Try.ntmps46
    go_wp2_with (go_at_call 55; refine hP.mono ?_; rintro e w1 ⟨rfl, hp1, hg1⟩)
    go_ret
    exact ⟨rfl, .same hp1 hg1⟩
  | false =>
    cases hlk : look s.R x with
    | none =>
      have e1 : s.rename x y = (31, s.power) := by simp [DK.rename, hq, DK.has, hlk]
      rw [e1]
      have hx : look s.power.R x = none := by rw [power_R]; exact hlk
      go_enter Try.func46, Try.ntmps46
      go_wp2_with (first
        | (go_at_call 55; refine hP.mono ?_; rintro e w1 ⟨rfl, hp1, hg1⟩)
        | (go_at_call 54; refine (find_no _ p F H s.power n hp1 hok.power hn x hx).mono ?_; rintro e w2 ⟨rfl, rfl⟩))
      go_ret
      exact ⟨rfl, .same hp1 hg1⟩
    | some f =>
      obtain ⟨k, hk⟩ := look_idx hlk
      have hx : s.power.R[k]? = some (x, f) := by rw [power_R]; exact hk
      have e1 : s.rename x y = (0, s.power.lay (putN (delA s.power.R x) y f)) := by
        simp only [DK.rename, hq, renR, power_R, DK.has, hlk]
        simp [DK.lay, hq]
      rw [e1]
      have hc0 := hok.power.files
      have hc1 := hok.power.calls
      have hx0 : (0 : Int) ≤ (k : Int) := by omega
      by_cases hxy : x = y
      · subst hxy
        have e2 : putN (delA s.power.R x) x f = s.power.R := by rw [putN_del hok.power.rise, putN_self hok.power.rise hx]
        rw [e2]
        unfold str
        go_enter Try.func46, Try.ntmps46
        go_wp2_with (first
          | (go_at_call 55; refine hP.mono ?_; rintro e w1 ⟨rfl, hp1, hg1⟩)
          | (go_at_call 54; refine (find_at _ p F H s.power n hp1 hok.power hn x hx).mono ?_; rintro e w2 ⟨rfl, rfl⟩)
          | (go_at_call 57; refine (well_any _ p F H _ hp1 (by omega) (by omega)).mono ?_; rintro e w4 ⟨rfl, hp4, hg4⟩))
        go_ret
        exact ⟨rfl, .trans (Moved.same hg1) (.same hp4 hg4)⟩
      · have hne : (x == y) = false := beq_eq_false_iff_ne.2 hxy
        unfold str
        go_enter Try.func46, Try.ntmps46
        go_wp2_with (first
          | (go_at_call 55; refine hP.mono ?_; rintro e w1 ⟨rfl, hp1, hg1⟩)
          | (go_at_call 54; refine (find_at _ p F H s.power n hp1 hok.power hn x hx).mono ?_; rintro e w2 ⟨rfl, rfl⟩; obtain ⟨g, m, c, v, hA, -, hkm, hFg, hgp, hgl, rfl, hv, -, c0, c1, c2⟩ := DD.file _ p F H s.power hp1 hx; have b1 := hA.c 1 rfl; have hx1 : (k : Int) < (m : Int) := by omega; clear hA))
        refine (find_at _ p F H s.power n hp1 hok.power hn x hx).mono ?_
        rintro e w2 ⟨rfl, rfl⟩
        obtain ⟨g, m, c, v, hA, -, hkm, hFg, hgp, hgl, rfl, hv, -, c0, c1, c2⟩ := DD.file _ p F H s.power hp1 hx
        have b1 := hA.c 1 rfl
        have hx1 : (k : Int) < (m : Int) := by omega
        obtain ⟨fl, hfl⟩ : ∃ fl, v.f.b.length = fl := ⟨_, rfl⟩
        rw [hfl] at c1
        have HD := Lib.hid (And.intro hp1 (And.intro hg1 (And.intro hv (And.intro hlk hfl))))
        clear hA hp1 hg1 hP hlk hfl e1 hk hv
        go_wp2_with fail
        have hbl : Below w2.heap.size w2 (w2.alloc (.cells #[.string ⟨x.toArray⟩, .slice (adr v.g) fl v.c, .int .i64 (v.f.s : Int)] 79)) := (Below.refl _ w2).alloc (Nat.le_refl _) _
        have hbx : At (w2.alloc (.cells #[.string ⟨x.toArray⟩, .slice (adr v.g) fl v.c, .int .i64 (v.f.s : Int)] 79)) w2.heap.size (NF.cells (x, v)) := by
          have := At.new w2 79 #[.string ⟨x.toArray⟩, .slice (adr v.g) fl v.c, .int .i64 (v.f.s : Int)]
          rw [← HD.out.2.2.2.2] at this ⊢
          exact this
        have hn1 : ¬ H w2.heap.size := fun h => absurd (HD.out.1.lt _ h) (Nat.lt_irrefl _)
        have hn2 : ¬ F w2.heap.size := fun h => hn1 (HD.out.1.fh h)
        have hp2 := HD.out.1.below hbl
        have hv2 := HD.out.2.2.1.grew (S := fun _ => False) (Grew.below hbl) (fun _ _ _ => id)
        generalize (w2.alloc (.cells #[.string ⟨x.toArray⟩, .slice (adr v.g) fl v.c, .int .i64 (v.f.s : Int)] 79)) = W2 at *
        refine (cut_any W2 p F H s.power n hp2 hok.power hn hx).mono ?_
        rintro e w3 ⟨rfl, hd3⟩
        obtain ⟨F3, H3, hp3, hm3, hv3, hH3⟩ := hd3.keep hp2.lt
        replace hv3 := hv3 v hv2
        have bx3 := hbx.grew hm3.g hn2
        have hlt3 := hbx.1
        have hm3' : Moved F H F3 H3 w2 w3 := (Moved.below hbl).trans hm3
        have hn3 : ¬ H3 w2.heap.size := fun h => (hm3.h _ h).elim hn1 (fun h => by omega)
        obtain ⟨k1, k2, k3, k4⟩ := del_facts hok.power.rise hok.power.sure x
        have hok3 := hok.power.withR k1 k2 (Nat.le_trans k3 hok.power.used) k4
        have HM := Lib.hid (And.intro hbl (And.intro hm3' (And.intro bx3 (And.intro hn3 (And.intro hv3 (And.intro hok3 hp3))))))
        clear hp2 hv2 hd3 hm3 hm3' hH3 bx3 hbx hbl k1 k2 k3 k4 hok3 hx hp3 hv3 hn1 hn2 hn3
        go_wp2_with fail
        cases hly : look (delA s.power.R x) y with
        | none =>
          refine (find_no w3 p F3 H3 _ n HM.out.2.2.2.2.2.2 HM.out.2.2.2.2.2.1 hn y hly).mono ?_
          rintro e w4 ⟨rfl, rfl⟩
          have bx4 := HM.out.2.2.1
          have zc := bx4.c 0 rfl
          have zf := bx4.f 0 rfl
          have bx5 := bx4.set 0 (.string ⟨y.toArray⟩) (by simp [NF.cells])
          have z0 := bx5.c 0 rfl
          have z1 := bx5.c 1 rfl
          have z2 := bx5.c 2 rfl
          have hS5 : Grew (fun i => i = w2.heap.size) w4 (w4.setCell ⟨w2.heap.size, 0, none⟩ (.string ⟨y.toArray⟩)) := (Grew.refl _ w4).put (S := fun i => i = w2.heap.size) (.inl rfl) _
          have hp5 := DD.grew HM.out.2.2.2.2.2.2 hS5 (fun k hk e => HM.out.2.2.2.1 (e ▸ hk))
          have hv5 := FVat.grew HM.out.2.2.2.2.1 hS5 (fun k hk _ e => HM.out.2.2.2.1 (e ▸ hk))
          have hm5 : Moved F H F3 H3 w2 (w4.setCell ⟨w2.heap.size, 0, none⟩ (.string ⟨y.toArray⟩)) := Moved.put HM.out.2.1 (Nat.le_refl _) _
          have hw5 := Moved.trans (Moved.same HD.out.2.1) hm5
          have HE := Lib.hid (And.intro hp5 (And.intro hv5 (And.intro HM.out.2.2.2.2.2.1 hw5)))
          clear bx4 bx5 hS5 hp5 hv5 hm5 hw5
          go_wp2_with fail
          refine (put_any _ p F3 H3 _ n HE.out.1 HE.out.2.2.1 hn y v HE.out.2.1 hly).mono ?_
          rintro e w6 ⟨rfl, F6, H6, hp6, hm6⟩
          have hm7 := HE.out.2.2.2.trans hm6
          clear hm6 z0 z1 z2 zc zf
          have HF := Lib.hid hm7
          clear hm7
          go_wp2_with (go_at_call 57; refine (well_any _ p F6 H6 _ hp6 (by dsimp only; omega) (by dsimp only; omega)).mono ?_; rintro e w7 ⟨rfl, hp7, hg7⟩)
          go_ret
          exact ⟨rfl, .trans HF.out (.same hp7 hg7)⟩
        | some f2 =>
          obtain ⟨k2, hk2⟩ := look_idx hly
          have hk20 : (0 : Int) ≤ (k2 : Int) := by omega
          refine (find_at w3 p F3 H3 _ n HM.out.2.2.2.2.2.2 HM.out.2.2.2.2.2.1 hn y hk2).mono ?_
          rintro e w3 ⟨rfl, rfl⟩
          go_wp2_with fail
          refine (cut_any w3 p F3 H3 _ n HM.out.2.2.2.2.2.2 HM.out.2.2.2.2.2.1 hn hk2).mono ?_
          rintro e w4 ⟨rfl, hd4⟩
          obtain ⟨F4, H4, hp4, hm4, hv4, hH4⟩ := hd4.keep HM.out.2.2.2.2.2.2.lt
          replace hv4 := hv4 v HM.out.2.2.2.2.1
          have hnF3 : ¬ F3 w2.heap.size := fun h => HM.out.2.2.2.1 (HM.out.2.2.2.2.2.2.fh h)
          have hbx4 := HM.out.2.2.1.grew hm4.g hnF3
          have hlt4 := HM.out.2.2.1.1
          have hn4 : ¬ H4 w2.heap.size := fun h => (hm4.h _ h).elim HM.out.2.2.2.1 (fun h => by omega)
          obtain ⟨k1, k2', k3, k4⟩ := del_facts HM.out.2.2.2.2.2.1.rise HM.out.2.2.2.2.2.1.sure y
          have hok4 := HM.out.2.2.2.2.2.1.withR k1 k2' (Nat.le_trans k3 HM.out.2.2.2.2.2.1.used) k4
          have hno4 : look (delA (delA s.power.R x) y) y = none := look_no fun i p hp e => by
            have := List.mem_of_getElem? hp
            have := (List.mem_filter.1 this).2
            simp at this
            exact this e
          have hm4' := HM.out.2.1.trans hm4
          have HN := Lib.hid (And.intro hp4 (And.intro hv4 (And.intro hbx4 (And.intro hn4 (And.intro hok4 (And.intro hno4 hm4'))))))
          clear hp4 hv4 hbx4 hn4 hok4 hno4 hm4 hd4 hH4 k1 k2' k3 k4 hnF3 hm4' HM hlt4 hk2 hk20 hly
          have bx4 := HN.out.2.2.1
          have zc := bx4.c 0 rfl
          have zf := bx4.f 0 rfl
          have bx5 := bx4.set 0 (.string ⟨y.toArray⟩) (by simp [NF.cells])
          have z0 := bx5.c 0 rfl
          have z1 := bx5.c 1 rfl
          have z2 := bx5.c 2 rfl
          have hS5 : Grew (fun i => i = w2.heap.size) w4 (w4.setCell ⟨w2.heap.size, 0, none⟩ (.string ⟨y.toArray⟩)) := (Grew.refl _ w4).put (S := fun i => i = w2.heap.size) (.inl rfl) _
          have hp5 := DD.grew HN.out.1 hS5 (fun k hk e => HN.out.2.2.2.1 (e ▸ hk))
          have hv5 := FVat.grew HN.out.2.1 hS5 (fun k hk _ e => HN.out.2.2.2.1 (e ▸ hk))
          have hm5 : Moved F H F4 H4 w2 (w4.setCell ⟨w2.heap.size, 0, none⟩ (.string ⟨y.toArray⟩)) := Moved.put HN.out.2.2.2.2.2.2 (Nat.le_refl _) _
          have hw5 := Moved.trans (Moved.same HD.out.2.1) hm5
          have HE := Lib.hid (And.intro hp5 (And.intro hv5 (And.intro HN.out.2.2.2.2.1 hw5)))
          clear bx4 bx5 hS5 hp5 hv5 hm5 hw5
          go_wp2_with fail
          refine (put_any _ p F4 H4 _ n HE.out.1 HE.out.2.2.1 hn y v HE.out.2.1 HN.out.2.2.2.2.2.1).mono ?_
          rintro e w6 ⟨rfl, F6, H6, hp6, hm6⟩
          have hm7 := HE.out.2.2.2.trans hm6
          clear hm6 z0 z1 z2 zc zf
          rw [show putN (delA (delA s.power.R x) y) y v.f = putN (delA s.power.R x) y v.f from putN_del (rise_del hok.power.rise x) y v.f] at hp6
          have HF := Lib.hid hm7
          clear hm7
          go_wp2_with (go_at_call 57; refine (well_any _ p F6 H6 _ hp6 (by dsimp only; omega) (by dsimp only; omega)).mono ?_; rintro e w7 ⟨rfl, hp7, hg7⟩)
          go_ret
          exact ⟨rfl, .trans HF.out (.same hp7 hg7)⟩
end Go.Proofs.Ythnbnhlfiehihaa
/- Disks: the document's NewDisk, Copy, Names. -/
namespace Go.Proofs.Ythnbnhlfiehihaa
open Go.RowKit Go.Maps
set_option maxRecDepth 20000

def ES : ET Try.prog 49 9 Nm := {
  n := 1
  bytes := 16
  cells := fun x => [str x]
  zero := []
  z := .string ⟨#[]⟩
  ty := Try.underlying49
  info := by kernel_rfl
  zc := rfl
  pos := by omega
  len := fun _ => rfl
  one := fun x u hu => by
    simp only [List.mem_cons, List.not_mem_nil, or_false] at hu
    rcases hu with rfl; rfl
  small := by omega }
theorem ES_dv (l : List Nm) : ES.dv l = l.map str := by
  unfold ET.dv
  induction l with
  | nil => rfl
  | cons x l ih => rw [List.flatMap_cons, ih]; rfl
theorem DD.made (w : World) (room k : Int) (hk : k = min (max room 0) 16777216) : DD (w.alloc (.cells #[.int .i64 k, .slice none 0 0, .int .i64 0, .int .i64 0, .int .i64 0, .bool false] 65)) w.heap.size (fun i => i = w.heap.size) (fun i => i = w.heap.size) (DK.new room) := by
  refine ⟨none, 0, [], ?_, .inl ⟨rfl, rfl, rfl⟩, Nat.le_refl _, Nat.zero_le _, rfl, fun q hq => (List.not_mem_nil hq).elim, rfl, fun _ => id, fun i hi => by rw [hi, World.size_alloc]; exact Nat.lt_succ_self _⟩
  have := At.new w 65 #[.int .i64 k, .slice none 0 0, .int .i64 0, .int .i64 0, .int .i64 0, .bool false]
  have e : ((DK.new room).room : Int) = k := by simp only [DK.new]; omega
  rw [e]
  exact this
theorem NewDisk_any (w : World) (room : Int) :
    Calls Try.prog 20 #[.int .i64 room] w fun e w' => ∃ (p : Nat) (F H : Nat → Prop), e = .returned (.pointer (some ⟨p, 0, none⟩)) ∧ DD w' p F H (DK.new room) ∧ (∀ k, H k → w.heap.size ≤ k) ∧ Below w.heap.size w w' := by
  go_enter Try.func20, Try.ntmps20
  go_wp2
  all_goals (go_ret; exact ⟨_, _, _, rfl, DD.made w room _ (by omega), fun k hk => by rw [hk]; exact Nat.le_refl _, (Below.refl _ w).alloc (Nat.le_refl _) _⟩)
theorem copyDD {w w2 : World} {b m : Nat} {A0 A2 : Option Addr} {l0 c0 c2 : Nat} {F H : Nat → Prop} {s : DK} {G : List NF} (hb2 : Below w.heap.size w w2) (hbx : At w2 w.heap.size (boxD A0 l0 c0 s)) (hown : EK.Own w2 b (.slice A2 m c2) G) (hm : m = G.length) (hb : w.heap.size < b) (hnil : A2 = none → G = [] ∧ c2 = 0) (hG : mapN FV.f G = s.R) (hvs : ∀ q ∈ G, FVat w F H q.2) (hlt : ∀ k, H k → k < w.heap.size) :
    ∃ F' H' : Nat → Prop, DD (w2.setCell ⟨w.heap.size, 1, none⟩ (.slice A2 m c2)) w.heap.size F' H' s ∧ (∀ k, F' k → w.heap.size ≤ k) ∧ (∀ k, H' k → (H k ∧ ¬ F k) ∨ w.heap.size ≤ k) := by
  subst hm
  have hbox : At (w2.setCell ⟨w.heap.size, 1, none⟩ (.slice A2 G.length c2)) w.heap.size (boxD A2 G.length c2 s) := hbx.set 1 _ (by simp [boxD])
  have hgr : Grew (fun i => i = w.heap.size) w2 (w2.setCell ⟨w.heap.size, 1, none⟩ (.slice A2 G.length c2)) := (Grew.refl _ w2).put (S := fun i => i = w.heap.size) (.inl rfl) _
  obtain ⟨A', c', e, hle, hcm, _, _, ha⟩ := hown.form
  injection e with e1 _ e3
  subst e1; subst e3
  have hfv : ∀ (F' : Nat → Prop), (∀ k, F' k → w.heap.size ≤ k) → F' w.heap.size → ∀ q ∈ G, FVat (w2.setCell ⟨w.heap.size, 1, none⟩ (.slice A2 G.length c2)) F' (fun k => F' k ∨ (H k ∧ ¬ F k)) q.2 := fun F' hF' hFw q hq => by
    obtain ⟨k1, k2, k3, k4⟩ := hvs q hq
    have h2 : FVat w2 F' (fun k => F' k ∨ (H k ∧ ¬ F k)) q.2 := ⟨(k1.below' hb2).more hb2.size, k2, k3, k4.imp id fun ⟨r, x1, x2, x3⟩ => ⟨r, x1, .inr ⟨x2, x3⟩, fun hk => by have h1 := hF' _ hk; have h2 := hlt _ x2; omega⟩⟩
    exact h2.grew hgr (fun k _ hk e => hk (e ▸ hFw))
  have hlt' : ∀ (F' : Nat → Prop), (∀ k, F' k → k < w2.heap.size) → ∀ k, (F' k ∨ (H k ∧ ¬ F k)) → k < (w2.setCell ⟨w.heap.size, 1, none⟩ (.slice A2 G.length c2)).heap.size := fun F' h k hk => by
    rcases hk with hk | ⟨hk, _⟩
    · have := h k hk; simpa using this
    · have := Nat.lt_of_lt_of_le (hlt k hk) hb2.size; simpa using this
  have hw2 : w.heap.size < w2.heap.size := hbx.1
  cases A2 with
  | none =>
    obtain ⟨rfl, rfl⟩ := hnil rfl
    refine ⟨fun k => k = w.heap.size, fun k => k = w.heap.size ∨ (H k ∧ ¬ F k), ⟨none, 0, [], hbox, .inl ⟨rfl, rfl, rfl⟩, Nat.le_refl _, Nat.zero_le _, hG, fun q hq => (List.not_mem_nil hq).elim, rfl, fun _ => .inl, hlt' _ (fun k hk => hk ▸ hw2)⟩, fun k hk => by omega, fun k hk => ?_⟩
    rcases hk with hk | hk
    · right; omega
    · exact .inl hk
  | some a =>
    obtain ⟨ha1, ha2, ha3⟩ := ha a rfl
    obtain ⟨g, o, sp⟩ := a
    dsimp only at ha1 ha2 ha3
    subst ha2; subst ha3
    have hrow := hown.row
    have hgw : g ≠ w.heap.size := by omega
    have hF' : ∀ k, (k = w.heap.size ∨ k = g) → w.heap.size ≤ k := fun k hk => by omega
    refine ⟨fun k => k = w.heap.size ∨ k = g, fun k => (k = w.heap.size ∨ k = g) ∨ (H k ∧ ¬ F k), ⟨_, c2, G, hbox, .inr ⟨g, rfl, .inr rfl, hgw, At.set_other hrow 1 _ (fun h => hgw h.symm)⟩, hle, hcm, hG, hfv _ hF' (.inl rfl), .inl rfl, fun _ => .inl, hlt' _ (fun k hk => ?_)⟩, hF', fun k hk => ?_⟩
    · rcases hk with rfl | rfl
      · exact hw2
      · exact hrow.1
    · rcases hk with hk | hk
      · exact .inr (hF' k hk)
      · exact .inl hk
set_option maxRecDepth 100000 in
set_option maxHeartbeats 1600000 in
theorem DCopy_any (w : World) (p : Nat) (F H : Nat → Prop) (s : DK) (n : Nat) (h : DD w p F H s) (hok : s.ok n) (hn : n < 1000000) :
    Calls Try.prog 24 #[.pointer (some ⟨p, 0, none⟩)] w fun e w' => ∃ (q : Nat) (F' H' : Nat → Prop), e = .returned (.pointer (some ⟨q, 0, none⟩)) ∧ DD w' q F' H' s ∧ (∀ k, F' k → w.heap.size ≤ k) ∧ (∀ k, H' k → (H k ∧ ¬ F k) ∨ w.heap.size ≤ k) ∧ Below w.heap.size w w' := by
  obtain ⟨A, c, G, h1, hsl, hc, hcm, hnil, hG, hvs⟩ := h.sl
  have hlen : (G.length : Int) ≤ n := by
    have h1 := hok.files
    have h2 := hok.calls
    rw [← hG, mapN_len] at h1
    omega
  have hHl := h.lt
  have hb1 : Below w.heap.size w (w.alloc (.cells (boxD A G.length c s).toArray 65)) := (Below.refl _ w).alloc (Nat.le_refl _) _
  have hbox := At.new w 65 (boxD A G.length c s).toArray
  obtain ⟨m, hm⟩ : ∃ m, G.length = m := ⟨_, rfl⟩
  rw [hm] at h1 hc hlen hb1 hbox
  have hpl := h1.1
  have c0 := h1.c 0 rfl
  have c1 := h1.c 1 rfl
  have c2 := h1.c 2 rfl
  have c3 := h1.c 3 rfl
  have c4 := h1.c 4 rfl
  have c5 := h1.c 5 rfl
  have k1 := h1.below hb1
  have d1 := k1.c 1 rfl
  have hs1 := (hsl.below' hb1).more hb1.size
  have HX := Lib.hid (And.intro hs1 (And.intro hG (And.intro hvs (And.intro hHl (And.intro hm (And.intro hb1 hbox))))))
  clear h1 hsl hG hvs hHl hm hs1 hbox hnil k1 h hb1
  unfold boxD at *
  go_enter Try.func24, Try.ntmps24
  go_wp2_with (refine appE (E := EK) (l := []) (m := m) rfl rfl (ET.Own.nil _ _) HX.out.1 HX.out.2.2.2.2.1.symm rfl rfl (by rw [HX.out.2.2.2.2.1]; simp; omega) (Nat.le_refl _) ?_; intro v2 w2 hown2 hg2 hat2; obtain ⟨A2, c2', rfl, _, _, _, hnil2, hA2⟩ := hown2.form; have hb2 := belowN hg2; have bx2 := HX.out.2.2.2.2.2.2.below hb2; have zc := bx2.c 1 rfl; have zf := bx2.f 1 rfl)
  go_ret
  have hb3 := HX.out.2.2.2.2.2.1.trans (hb2.mono HX.out.2.2.2.2.2.1.size)
  obtain ⟨F', H', q1, q2, q3⟩ := copyDD hb3 bx2 hown2 rfl (by simp) hnil2 HX.out.2.1 HX.out.2.2.1 HX.out.2.2.2.1
  exact ⟨w.heap.size, rfl, F', H', q1, q2, q3, hb3.setCell (Nat.le_refl _) _⟩
set_option maxRecDepth 100000 in
set_option maxHeartbeats 1600000 in
theorem DNames_any (w : World) (p : Nat) (F H : Nat → Prop) (s : DK) (n : Nat) (h : DD w p F H s) (hok : s.ok n) (hn : n < 1000000) :
    Calls Try.prog 35 #[.pointer (some ⟨p, 0, none⟩)] w fun e w' => ∃ A c, e = .returned (.slice A s.R.length c) ∧ NamesAt w w' A c s.names ∧ Below w.heap.size w w' := by
  obtain ⟨A, c, G, h1, hsl, hc, hcm, hnil, hG, _⟩ := h.sl
  have hlen : (G.length : Int) ≤ n := by
    have h1 := hok.files
    have h2 := hok.calls
    rw [← hG, mapN_len] at h1
    omega
  have hRl : s.R.length = G.length := by rw [← hG, mapN_len]
  have hnm : s.names = G.map (·.1) := by rw [DK.names, ← hG, mapN_names]
  obtain ⟨m, hm⟩ : ∃ m, G.length = m := ⟨_, rfl⟩
  rw [hRl, hnm]
  rw [hm] at h1 hc hlen ⊢
  have hend : (G.map (·.1)).take m = G.map (·.1) := by rw [List.take_of_length_le (by simp [hm])]
  have HH := Lib.hid (And.intro h1 (And.intro hsl (And.intro hm hend)))
  clear h hok hG h1 hsl hm hnil hcm hc hRl hnm hend
  go_enter Try.func35, Try.ntmps35
  go_wp2_with fail
  go_loopw [3, 4] (fun x3 x4 w2 => ∃ j : Nat, j ≤ m ∧ x4 = .int .i64 (j : Int) ∧ ES.Own w2 w.heap.size x3 ((G.map (·.1)).take j) ∧ Below w.heap.size w w2) (fun _ x4 _ => m - (intOf x4).toNat)
  case atStart => exact ⟨0, by omega, rfl, ET.Own.nil _ _, Below.refl _ _⟩
  case round =>
    obtain ⟨j, hj, rfl, hown, hbel⟩ := hrel
    have e1 := (HH.out.1.below hbel).c 1 rfl
    obtain ⟨A3, c3, rfl, hle3, hcm3, hs3, hn3, ha3⟩ := hown.form
    have hlj : ((G.map (·.1)).take j).length = j := by have := HH.out.2.2.1; rw [List.length_take, List.length_map]; omega
    rw [hlj] at hown hle3 ⊢
    have HO := Lib.hid (And.intro hown (And.intro hbel (And.intro hlj (And.intro hs3 (And.intro hn3 ha3)))))
    clear hown hbel hlj hs3 hn3 ha3
    by_cases hlt : j < m
    · obtain ⟨y, hy⟩ : ∃ y, G[j]? = some y := ⟨_, List.getElem?_eq_getElem (by rw [HH.out.2.2.1]; omega)⟩
      obtain ⟨g, o, hA, hg, hid, _⟩ := fileAt ((HH.out.2.1.below' HO.out.2.1).more HO.out.2.1.size) hy
      subst hA
      unfold str at hid
      have HY := Lib.hid (show (G.map (·.1)).take (j + 1) = (G.map (·.1)).take j ++ [y.1] by rw [List.take_add_one, List.getElem?_map, hy]; rfl)
      have hs4 := ES.own1 wr y.1
      have hb4 : Below w.heap.size w (wr.alloc (.cells (ES.cells y.1).toArray 9)) := HO.out.2.1.alloc HO.out.2.1.size _
      have ho4 := HO.out.1.below ((Below.refl wr.heap.size wr).alloc (Nat.le_refl _) (.cells (ES.cells y.1).toArray 9))
      have hsl4 := ET.Row.sl (ET.Own.row (l := [y.1]) hs4)
      have HW := Lib.hid (And.intro hsl4 (And.intro hb4 ho4))
      clear hy hs4 hb4 ho4 hsl4
      go_wp2_with (first
        | (refine opVal rfl (ES.ex_bs1 rfl y.1 rfl) ?_)
        | (refine appE (E := ES) (m := 1) rfl rfl HW.out.2.2 HW.out.1 rfl rfl rfl (by rw [HO.out.2.2.1]; simp; omega) HW.out.2.1.size ?_; intro v5 w5 hown5 hg5 hat5))
      go_roundw
      case rel => exact ⟨j + 1, hlt, by go_num, by rw [HY.out]; exact hown5, ET.Own.below_of HW.out.2.2 HW.out.2.1 HW.out.2.1.size hg5⟩
      case measure => simp [intOf]; omega
    · obtain rfl : j = m := by omega
      go_wp2_with fail
      go_ret
      obtain ⟨hown, hbel, hlj, hs3, hn3, ha3⟩ := HO.out
      rw [HH.out.2.2.2, ES_dv] at hs3
      rw [HH.out.2.2.2] at hn3
      exact ⟨A3, c3, rfl, ⟨hs3, by rw [List.length_map, HH.out.2.2.1]; exact hle3, hcm3, fun e => (hn3 e).1, fun a ha => ⟨(ha3 a ha).1, (ha3 a ha).2.2, (ha3 a ha).2.1⟩⟩, hbel⟩
end Go.Proofs.Ythnbnhlfiehihaa
