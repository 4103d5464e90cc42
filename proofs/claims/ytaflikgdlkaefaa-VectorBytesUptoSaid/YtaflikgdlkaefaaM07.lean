/- Ranges: the document's SpanAdd of whatever list, SpanOf, SpanJoin. -/
import Derived.WalkSmall
import Derived.Laws.BitsAllLaws
import Derived.Maps.OwnSet
import Derived.Maps.RangeWalk
import Derived.Maps.Ext
import Derived.RangeFuncSeq
import Derived.Sort.MapsRangeIn
import Derived.Test.YtaflikgdlkaefaaM00
import Derived.Test.YtaflikgdlkaefaaM01
import Derived.Test.YtaflikgdlkaefaaM03
import Derived.Test.YtaflikgdlkaefaaM06
namespace Go.Proofs.Ytaflikgdlkaefaa
open Go.RowKit Go.Proofs.Ytaflikgdlkaefaa.Pl Go.Proofs.Ytaflikgdlkaefaa.Sp
set_option maxRecDepth 20000

theorem mergeR_len : ∀ (l : List Rg) (r : Rg), (mergeR l r).2.length ≤ l.length
  | [], r => by simp [mergeR]
  | x :: t, r => by
    rw [mergeR]
    split
    · have := mergeR_len t ⟨min r.a x.a, max r.b x.b⟩
      rw [List.length_cons]; omega
    · exact Nat.le_refl _
theorem addR_len : ∀ (l : List Rg) (r : Rg), (addR l r).length ≤ l.length + 1
  | [], r => by simp [addR]
  | x :: t, r => by
    rw [addR]
    split
    · have := addR_len t r
      rw [List.length_cons, List.length_cons]; omega
    · have := mergeR_len (x :: t) r
      rw [List.length_cons]; omega
def addS (l : List Rg) (r : Rg) : List Rg := if right l = true ∧ r.ok = true then addR l r else []
set_option maxRecDepth 100000 in
theorem RRAdd_any (w : World) (A : Option Addr) (n c : Nat) (l : List Rg) (r : Rg) (hb : Sl w w.heap.size A (rv l)) (h0 : n = l.length) (hl : n ≤ 10000000) (hc : n ≤ c) (hcm : c ≤ maxLen) :
    Calls Try.prog 54 #[.slice A n c, r.v] w (RAns w (addS l r)) := by
  obtain ⟨p, hp⟩ : ∃ p, right l = p := ⟨_, rfl⟩
  obtain ⟨q, hq⟩ : ∃ q, r.ok = q := ⟨_, rfl⟩
  have hb0 := boxR w r
  have hst0 := StandsR.new w 44 r
  have HL := Lib.hid (fun W (hW : Below w.heap.size w W) => RRRight_any W A n c l ((hb.below hW).more hW.size) h0 (by omega))
  have HR := Lib.hid (fun W g (hW : Sl W W.heap.size (some ⟨g, 0, none⟩) (rv [r])) => RRRight_any W (some ⟨g, 0, none⟩) 1 1 [r] hW rfl (by omega))
  rw [right_one_ok, hq] at HR
  rw [hp] at HL
  cases p with
  | false =>
    have HJ := Lib.hid (show addS l r = [] by rw [addS, if_neg (by rw [hp]; simp)])
    clear hp hq hb h0 HR hc hcm hst0
    unfold Rg.v
    go_enter Try.func54, Try.ntmps54
    go_wp2_with fail
    refine (HL.out _ hb0).mono ?_
    rintro e w1 ⟨rfl, h1⟩
    have hbz := hb0.trans (h1.mono hb0.size)
    go_wp2_with fail
    go_ret
    rw [HJ.out]
    exact RAns.nil hbz
  | true =>
    cases q with
    | false =>
      have HJ := Lib.hid (show addS l r = [] by rw [addS, if_neg (by rw [hq]; simp)])
      clear hp hq hb h0 hc hcm
      unfold Rg.v
      go_enter Try.func54, Try.ntmps54
      go_wp2_with fail
      refine (HL.out _ hb0).mono ?_
      rintro e w1 ⟨rfl, h1⟩
      have hst1 := hst0.below h1
      have hbz1 := hb0.trans (h1.mono hb0.size)
      clear hst0 hb0 h1
      generalize hgb : w.heap.size = gb at hst1 ⊢
      have m0 := hst1.2.1
      have m1 := hst1.2.2.1
      go_wp2_with fail
      refine (HR.out _ _ (Sl.oneR w1 r)).mono ?_
      rintro e w2 ⟨rfl, h2⟩
      have hb1 := hbz1.alloc hbz1.size (.cells #[.int .i64 r.a, .int .i64 r.b] 44)
      have hbz2 := hb1.trans (h2.mono hb1.size)
      clear h2 hb1 hst1 m0 m1 hbz1 hgb
      go_wp2_with fail
      go_ret
      rw [HJ.out]
      exact RAns.nil hbz2
    | true =>
      rw [addS, if_pos ⟨hp, hq⟩]
      exact RRAddOk_any w A n c l r hb h0 hl hc hcm hp hq
theorem ofS_take {l : List Int} {k : Nat} (hk : k < l.length) : ofS (l.take (k + 1)) = if numOk (l[k]?.getD 0) = true then addR (ofS (l.take k)) ⟨l[k]?.getD 0, l[k]?.getD 0⟩ else ofS (l.take k) := by
  rw [List.take_succ_eq_append_getElem hk, List.getElem?_eq_getElem hk, Option.getD_some]
  unfold ofS
  rw [List.foldl_append]
  rfl
theorem ofS_len (l : List Int) : (ofS l).length ≤ l.length := by
  have h : ∀ (l : List Int) (o : List Rg), (l.foldl (fun o n => if numOk n = true then addR o ⟨n, n⟩ else o) o).length ≤ o.length + l.length := by
    intro l
    induction l with
    | nil => intro o; simp
    | cons x t ih =>
      intro o
      rw [List.foldl_cons, List.length_cons]
      have h1 := ih (if numOk x = true then addR o ⟨x, x⟩ else o)
      have h2 := addR_len o ⟨x, x⟩
      split at h1 <;> split <;> first | omega | contradiction
  have := h l []
  unfold ofS
  simpa using this
end Go.Proofs.Ytaflikgdlkaefaa
/- Ranges: the document's SpanJoin. -/
namespace Go.Proofs.Ytaflikgdlkaefaa
open Go.RowKit Go.Proofs.Ytaflikgdlkaefaa.Pl Go.Proofs.Ytaflikgdlkaefaa.Sp
set_option maxRecDepth 20000

theorem join_take {a b : List Rg} {k : Nat} (hk : k < b.length) : (b.take (k + 1)).foldl addR a = addR ((b.take k).foldl addR a) (b[k]?.getD ⟨0, 0⟩) := by
  rw [List.take_succ_eq_append_getElem hk, List.foldl_append, List.getElem?_eq_getElem hk]
  rfl
theorem fold_addlen : ∀ (b a : List Rg), (b.foldl addR a).length ≤ a.length + b.length
  | [], a => by simp
  | x :: t, a => by
    have h1 := fold_addlen t (addR a x)
    have h2 := addR_len a x
    rw [List.foldl_cons, List.length_cons]
    omega
theorem own_formR {w : World} {base : Nat} {v : Value} {l : List Rg} (h : OwnR w base v l) : ∃ A c, v = .slice A l.length c ∧ Sl w w.heap.size A (rv l) ∧ l.length ≤ c ∧ c ≤ maxLen := by
  obtain ⟨A, c, e, h1, h2, h3, _⟩ := h.form
  exact ⟨A, c, e, h3, h1, h2⟩
end Go.Proofs.Ytaflikgdlkaefaa
/- Ranges: the document's SpanMinus. -/
namespace Go.Proofs.Ytaflikgdlkaefaa
open Go.RowKit Go.Proofs.Ytaflikgdlkaefaa.Pl Go.Proofs.Ytaflikgdlkaefaa.Sp
set_option maxRecDepth 20000

theorem cut1_len (o x : Rg) : (cut1 o x).length ≤ 2 := by
  unfold cut1
  rw [List.length_append]
  (repeat' split) <;> simp
theorem cutR_len0 {x : Rg} (hx : x.ok = true) : ∀ {l : List Rg} {lo : Int}, okR lo l = true → x.b < lo → (cutR l x).length ≤ l.length
  | [], _, _, _ => Nat.le_refl _
  | o :: t, lo, h, hlo => by
    rw [okR_cons] at h
    have ho := ok_iff.1 h.2.1
    have hx' := ok_iff.1 hx
    have ih := cutR_len0 hx (l := t) (lo := o.b + 2) h.2.2 (by omega)
    have e : cutR (o :: t) x = cut1 o x ++ cutR t x := by simp [cutR]
    have h1 : (cut1 o x).length ≤ 1 := by
      unfold cut1
      rw [if_neg (by omega), List.nil_append]
      split <;> simp
    rw [e, List.length_append, List.length_cons]
    omega
theorem cutR_len {x : Rg} (hx : x.ok = true) : ∀ {l : List Rg} {lo : Int}, okR lo l = true → (cutR l x).length ≤ l.length + 1
  | [], _, _ => by simp [cutR]
  | o :: t, lo, h => by
    rw [okR_cons] at h
    have ho := ok_iff.1 h.2.1
    have hx' := ok_iff.1 hx
    have e : cutR (o :: t) x = cut1 o x ++ cutR t x := by simp [cutR]
    rw [e, List.length_append, List.length_cons]
    by_cases hb : x.b < o.b
    · have h1 := cut1_len o x
      have h2 := cutR_len0 hx (l := t) (lo := o.b + 2) h.2.2 (by omega)
      omega
    · have h1 : (cut1 o x).length ≤ 1 := by
        unfold cut1
        rw [if_neg (show ¬ max o.a (x.b + 1) ≤ o.b by omega), List.append_nil]
        split <;> simp
      have h2 := cutR_len hx (l := t) (lo := o.b + 2) h.2.2
      omega
theorem flat_len (x : Rg) : ∀ (l : List Rg), (l.flatMap fun o => cut1 o x).length ≤ 2 * l.length
  | [] => by simp
  | o :: t => by
    have h1 := cut1_len o x
    have h2 := flat_len x t
    rw [List.flatMap_cons, List.length_append, List.length_cons]
    omega
theorem flat_take {x : Rg} {l : List Rg} {k : Nat} (hk : k < l.length) : ((l.take (k + 1)).flatMap fun o => cut1 o x) = ((l.take k).flatMap fun o => cut1 o x) ++ cut1 (l[k]?.getD ⟨0, 0⟩) x := by
  rw [List.take_succ_eq_append_getElem hk, List.flatMap_append, List.getElem?_eq_getElem hk]
  simp
theorem minus_take {a b : List Rg} {k : Nat} (hk : k < b.length) : (b.take (k + 1)).foldl cutR a = cutR ((b.take k).foldl cutR a) (b[k]?.getD ⟨0, 0⟩) := by
  rw [List.take_succ_eq_append_getElem hk, List.foldl_append, List.getElem?_eq_getElem hk]
  rfl
end Go.Proofs.Ytaflikgdlkaefaa
/- Rows of int64 of the call's own: append. -/
namespace Go.Proofs.Ytaflikgdlkaefaa
open Go.RowKit Go.Proofs.Ytaflikgdlkaefaa.Pl Go.Proofs.Ytaflikgdlkaefaa.Sp
set_option maxRecDepth 20000

abbrev OwnZ (w : World) (base : Nat) (v : Value) (l : List Int) : Prop := w.ownsRow base 2 1 v l.length (zv l)
theorem zinfo : (Try.prog.info? 2).map (fun i => (i.zero, i.size, i.bytes)) = some (some (.int .i64 0), 1, 8) := by kernel_rfl
theorem OwnZ.nil (w : World) (base : Nat) : OwnZ w base (.slice none 0 0) [] := World.ownsRow_nil w base _ 1
theorem zv_app (a b : List Int) : zv (a ++ b) = zv a ++ zv b := by simp [zv]
theorem zv_one (l : List Int) : ∀ u ∈ zv l, u.oneCell' = true := by
  intro u hu
  simp only [zv, List.mem_map] at hu
  obtain ⟨c, _, rfl⟩ := hu
  rfl
theorem OwnZ.form {w : World} {base : Nat} {v : Value} {l : List Int} (h : OwnZ w base v l) : ∃ A c, v = .slice A l.length c ∧ Sl w w.heap.size A (zv l) ∧ l.length ≤ c ∧ c ≤ maxLen := by
  rcases h.2 with ⟨rfl, hn⟩ | ⟨g, cap, cur, rfl, hb, hg, hn, hm, hcs, ht⟩
  · have := List.eq_nil_of_length_eq_zero hn
    subst this
    exact ⟨none, 0, rfl, .inl rfl, by simp, by simp [maxLen]⟩
  · have hlt : g < w.heap.size := (Array.getElem?_eq_some_iff.1 hg).1
    refine ⟨_, cap, rfl, .inr ⟨g, 0, rfl, hlt, hlt, fun j u hu => ?_⟩, hn, hm⟩
    have := h.cells (g := g) rfl j u hu
    rw [Nat.zero_add]
    rw [addr0] at this
    exact this
theorem OwnZ.below {w w' : World} {base : Nat} {v : Value} {l : List Int} (h : OwnZ w base v l) (hb : Below w.heap.size w w') : OwnZ w' base v l :=
  h.kept (row := none) ⟨hb.os, hb.tape, hb.output, hb.size, fun k hk _ => hb.block k hk⟩ (by cases hv : v.ownBlock <;> simp)
theorem own_belowZ {w wr w1 : World} {x : Value} {B : Nat} {l : List Int} (hb : Below B w wr) (hB : B ≤ wr.heap.size) (hown : OwnZ wr B x l) (hg : wr.grownBy w1 x.ownBlock) : Below B w w1 :=
  hb.trans (below_of_grown hg (fun g e => (hown.lt g e).1) hB)
theorem run_appZ (w : World) (ty : TypeId) {base : Nat} {v : Value} {l : List Int} (hown : OwnZ w base v l) {B : Nat} {A : Option Addr} {m c : Nat} {k : List Int} (hr : Sl w B A (zv k)) (hm : m = k.length)
    (hl : l.length + k.length ≤ 1000000000) (hbase : base ≤ w.heap.size) :
    ∃ v' w', (Builtin.append_ #[81, 81] ty #[v, .slice A m c]).run Try.prog w = .ok v' w' ∧ OwnZ w' base v' (l ++ k) ∧ w.grownBy w' v.ownBlock ∧ (v'.ownBlock = v.ownBlock ∨ v'.ownBlock = some w.heap.size) := by
  subst hm
  obtain ⟨i, hi, hz, hz1, hz2⟩ := info_parts zinfo
  rcases A with _ | ad
  · have hk : k = [] := by
      rcases hr with h | ⟨b, o, h, _⟩
      · have := zv_len k
        rw [h] at this
        exact List.eq_nil_of_length_eq_zero (by simp at this; omega)
      · cases h
    subst hk
    refine ⟨v, w, ?_, by simpa using hown, World.grownBy.refl w _, .inl rfl⟩
    rcases hown.2 with ⟨e, h0⟩ | ⟨g, cap', cur, e, hb0, hg0, hnc0, _⟩
    · subst e
      simp [Builtin.append_, run_underlying Try.underlying81, sizeOf, typeInfo, hi, Builtin.lenOf, Builtin.firstCells]
    · subst e
      simp [Builtin.append_, run_underlying Try.underlying81, sizeOf, typeInfo, hi, Builtin.lenOf, Builtin.firstCells, loadCells, hnc0, storeCells]
  · obtain ⟨v', w', hrun, h2, h3, _, h5⟩ := run_append_own_at (P := Try.prog) w base 81 ty 2 i (.int .i64 0) 1 8 Try.underlying81 hi hz hz1 hz2 rfl (by omega) v l.length (zv l) hown ad k.length c (zv k)
      (by rw [zv_len, Nat.mul_one]) (fun j u hu => by
        rcases hr with h | ⟨b, o, h, _, _, hc⟩
        · rw [h] at hu; simp at hu
        · injection h with h
          subst h
          have : (⟨b, o, none⟩ : Addr).add j = ⟨b, o + j, none⟩ := by
            unfold Addr.add
            split
            · rename_i h0; subst h0; rfl
            · rfl
          rw [this]; exact hc j u hu) (zv_one k) (by simp only [maxLen]; omega) (by omega) hbase
    exact ⟨v', w', hrun, by rw [OwnZ, zv_app, List.length_append]; exact h2, h3, h5⟩
section
variable {ops : Array Oper} {rest : List Oper} {o : Oper} {a : Act} {Q : Exit → Act → World → Prop} {w : World} {s x : Operand}
theorem wp_appZ {K : Act → World → Prop} (ho : o.op = .call { callee := .builtin .append, args := #[s, x], argTypes := #[81, 81] })
    {base : Nat} {v : Value} {l : List Int} (hown : OwnZ w base v l) {B : Nat} {A : Option Addr} {m c : Nat} {k : List Int} (hr : Sl w B A (zv k)) (hm : m = k.length)
    (hs : a.eval s = v) (hx : a.eval x = .slice A m c) (hl : l.length + k.length ≤ 1000000000) (hbase : base ≤ w.heap.size)
    (h : ∀ v' w', OwnZ w' base v' (l ++ k) → w.grownBy w' v.ownBlock → (v'.ownBlock = v.ownBlock ∨ v'.ownBlock = some w.heap.size) → K (a.put o.dst v') w') : o.wp Try.prog a w K Q := by
  obtain ⟨v', w', hrun, h2, h3, h4⟩ := run_appZ w o.type hown hr hm hl hbase (c := c)
  unfold Oper.wp execOp
  simp only [ho, resolve, invoke, builtin, Sem.run_bind, Sem.run_pure, Result.andThen_ok, List.map_toArray, List.map_cons, List.map_nil, hs, hx, hrun]
  exact h v' w' h2 h3 h4
theorem appZ (hgd : o.guard = none) (ho : o.op = .call { callee := .builtin .append, args := #[s, x], argTypes := #[81, 81] })
    {base : Nat} {v : Value} {l : List Int} (hown : OwnZ w base v l) {B : Nat} {A : Option Addr} {m c : Nat} {k : List Int} (hr : Sl w B A (zv k)) (hm : m = k.length)
    (hs : a.eval s = v) (hx : a.eval x = .slice A m c) (hl : l.length + k.length ≤ 1000000000) (hbase : base ≤ w.heap.size)
    (h : ∀ v' w', OwnZ w' base v' (l ++ k) → w.grownBy w' v.ownBlock → (v'.ownBlock = v.ownBlock ∨ v'.ownBlock = some w.heap.size) → wpList Try.prog ops Q rest (a.put o.dst v') w') : wpList Try.prog ops Q (o :: rest) a w :=
  wpList_plain hgd fun _ hK => wp_appZ ho hown hr hm hs hx hl hbase fun v' w' h2 h3 h4 => hK _ _ (h v' w' h2 h3 h4)
end
theorem boxZ (w : World) (x : Int) : Below w.heap.size w (w.alloc (.cells #[.int .i64 x] 2)) := balloc (Below.refl _ _) _
theorem Sl.oneZ (w : World) (x : Int) : Sl (w.alloc (.cells #[.int .i64 x] 2)) (w.alloc (.cells #[.int .i64 x] 2)).heap.size (some ⟨w.heap.size, 0, none⟩) (zv [x]) :=
  (Sl.new w 2 #[.int .i64 x] (0, 0)).more (by simp)
end Go.Proofs.Ytaflikgdlkaefaa
/- Ranges: bits. -/
namespace Go.Proofs.Ytaflikgdlkaefaa
open Go.RowKit Go.Proofs.Ytaflikgdlkaefaa.Pl Go.Proofs.Ytaflikgdlkaefaa.Sp
set_option maxRecDepth 20000

def bit (x i : Nat) : Bool := decide (x / 2 ^ i % 2 = 1)
def bl (x : Nat) (base : Int) (k : Nat) : List Int := ((List.range k).filter (bit x)).map fun (i : Nat) => base + 1 + (i : Int)
theorem bl_succ (x : Nat) (base : Int) (k : Nat) : bl x base (k + 1) = bl x base k ++ if bit x k = true then [base + 1 + (k : Int)] else [] := by
  unfold bl
  rw [List.range_succ, List.filter_append, List.map_append]
  congr 1
  by_cases h : bit x k = true <;> simp [h]
theorem bl_len (x : Nat) (base : Int) (k : Nat) : (bl x base k).length ≤ k := by
  unfold bl
  rw [List.length_map]
  have := List.length_filter_le (bit x) (List.range k)
  rw [List.length_range] at this
  exact this
theorem and1_bit (x i : Nat) (hx : U64 x) : (bits .and .u64 ((x : Int) / 2 ^ i) 1 == 1) = bit x i := by
  have e : (x : Int) / 2 ^ i = ((x / 2 ^ i : Nat) : Int) := by push_cast; rfl
  have h := Nat.div_le_self x (2 ^ i)
  have h' := hx.out
  rw [e, bit]
  generalize x / 2 ^ i = y at *
  rw [and_one_u64 _ (by omega) (by omega), Bool.eq_iff_iff, beq_iff_eq, decide_eq_true_eq]
  omega
def bitsR (x : Nat) (base : Int) : List Rg := ofS (bl x base 64)
end Go.Proofs.Ytaflikgdlkaefaa
/- Ranges: plain facts for the laws. -/
namespace Go.Proofs.Ytaflikgdlkaefaa.Sp
open Go.Proofs.Ytaflikgdlkaefaa

theorem joinS_len (a b : List Rg) : (joinS a b).length ≤ a.length + b.length := by
  unfold joinS
  split
  · exact fold_addlen b a
  · simp
theorem minusR_len : ∀ (b a : List Rg), right a = true → (∀ r ∈ b, r.ok = true) → (b.foldl cutR a).length ≤ a.length + b.length
  | [], a, _, _ => by simp
  | x :: t, a, ha, hb => by
    have hx := hb x (by simp)
    have h1 := minusR_len t (cutR a x) (cutR_ok hx ha).1 (fun r hr => hb r (by simp [hr]))
    have h2 := cutR_len hx ha
    rw [List.foldl_cons, List.length_cons]
    omega
theorem minusS_len (a b : List Rg) : (minusS a b).length ≤ a.length + b.length := by
  unfold minusS
  split
  · rename_i h; exact minusR_len b a h.1 (right_ok h.2)
  · simp
theorem bitsR_len (x : Nat) (base : Int) : (bitsR x base).length ≤ 64 := Nat.le_trans (ofS_len _) (bl_len x base 64)
theorem bitsR_right (x : Nat) (base : Int) : right (bitsR x base) = true := ofS_right _
theorem join_comm {a b : List Rg} (ha : right a = true) (hb : right b = true) : joinS a b = joinS b a :=
  right_one (joinS_right a b) (joinS_right b a) fun n => by rw [joinS_has ha hb, joinS_has hb ha, Bool.or_comm]
theorem join_assoc {a b c : List Rg} (ha : right a = true) (hb : right b = true) (hc : right c = true) : joinS (joinS a b) c = joinS a (joinS b c) :=
  right_one (joinS_right _ _) (joinS_right _ _) fun n => by rw [joinS_has (joinS_right a b) hc, joinS_has ha hb, joinS_has ha (joinS_right b c), joinS_has hb hc, Bool.or_assoc]
theorem join_idem {a b : List Rg} (ha : right a = true) (hb : right b = true) : joinS (joinS a b) a = joinS a b :=
  right_one (joinS_right _ _) (joinS_right _ _) fun n => by
    rw [joinS_has (joinS_right a b) ha, joinS_has ha hb]
    cases has a n <;> cases has b n <;> rfl
theorem parts_join {a b : List Rg} (ha : right a = true) (hb : right b = true) : joinS (minusS a b) (minusS a (minusS a b)) = a :=
  right_one (joinS_right _ _) ha fun n => by
    rw [joinS_has (minusS_right a b) (minusS_right _ _), minusS_has ha (minusS_right a b), minusS_has ha hb]
    cases has a n <;> cases has b n <;> rfl
theorem join_minus {a b : List Rg} (ha : right a = true) (hb : right b = true) : minusS (joinS a b) b = minusS a b :=
  right_one (minusS_right _ _) (minusS_right _ _) fun n => by
    rw [minusS_has (joinS_right a b) hb, joinS_has ha hb, minusS_has ha hb]
    cases has a n <;> cases has b n <;> rfl
theorem minus_minus {a b c : List Rg} (ha : right a = true) (hb : right b = true) (hc : right c = true) : minusS (minusS a b) c = minusS a (joinS b c) :=
  right_one (minusS_right _ _) (minusS_right _ _) fun n => by
    rw [minusS_has (minusS_right a b) hc, minusS_has ha hb, minusS_has ha (joinS_right b c), joinS_has hb hc]
    cases has a n <;> cases has b n <;> cases has c n <;> rfl
theorem minus_self {a : List Rg} (ha : right a = true) : minusS a a = [] :=
  right_one (minusS_right _ _) rfl fun n => by
    rw [minusS_has ha ha, has_nil]
    cases has a n <;> rfl
theorem minus_nil {a : List Rg} (ha : right a = true) : minusS a [] = a :=
  right_one (minusS_right _ _) ha fun n => by
    rw [minusS_has ha rfl, has_nil]
    cases has a n <;> rfl
theorem join_twice {a r : List Rg} (ha : right a = true) (hr : right r = true) : joinS (joinS a r) r = joinS a r :=
  right_one (joinS_right _ _) (joinS_right _ _) fun n => by
    rw [joinS_has (joinS_right a r) hr, joinS_has ha hr]
    cases has a n <;> cases has r n <;> rfl
theorem bl_mem {x : Nat} {base : Int} {n : Int} : n ∈ bl x base 64 ↔ ∃ i, i < 64 ∧ bit x i = true ∧ n = base + 1 + (i : Int) := by
  unfold bl
  simp only [List.mem_map, List.mem_filter, List.mem_range]
  constructor
  · rintro ⟨i, ⟨h1, h2⟩, rfl⟩; exact ⟨i, h1, h2, rfl⟩
  · rintro ⟨i, h1, h2, rfl⟩; exact ⟨i, ⟨h1, h2⟩, rfl⟩
theorem bitsR_has {x : Nat} {base : Int} {n : Int} : has (bitsR x base) n = true ↔ (1 ≤ n ∧ n ≤ mx) ∧ ∃ i, i < 64 ∧ bit x i = true ∧ n = base + 1 + (i : Int) := by
  rw [bitsR, ofS_has, Bool.and_eq_true, numOk, decide_eq_true_eq, List.contains_iff_mem, bl_mem]
theorem bitsR_at {x : Nat} {base : Int} {i : Nat} (hi : i < 64) (h0 : 0 ≤ base) (h1 : base + 64 ≤ mx) : has (bitsR x base) (base + 1 + (i : Int)) = bit x i := by
  rw [Bool.eq_iff_iff, bitsR_has]
  constructor
  · rintro ⟨_, j, h2, h3, h4⟩
    have : j = i := by omega
    subst this; exact h3
  · intro h
    exact ⟨by omega, i, hi, h, rfl⟩
end Go.Proofs.Ytaflikgdlkaefaa.Sp
/- Ranges: plain facts for 'SpanSets'. -/
namespace Go.Proofs.Ytaflikgdlkaefaa.Sp
open Go.Proofs.Ytaflikgdlkaefaa

theorem okR_of_has {l : List Rg} {lo : Int} (h : right l = true) (hh : ∀ n, has l n = true → lo ≤ n) : okR lo l = true := by
  cases l with
  | nil => rfl
  | cons r t =>
    rw [right, okR_cons] at h
    rw [okR_cons]
    refine ⟨hh r.a ?_, h.2⟩
    rw [has_cons, in_iff.2 ⟨Int.le_refl _, (ok_iff.1 h.2.1).2.1⟩]
    rfl
theorem cnt_bd (p : Int → Bool) : ∀ (k : Nat) (lo : Int), 0 ≤ cnt p lo k ∧ cnt p lo k ≤ (k : Int)
  | 0, lo => by simp [cnt]
  | k + 1, lo => by
    have := cnt_bd p k (lo + 1)
    rw [cnt]
    split <;> omega
theorem cnt_add {p q r : Int → Bool} : ∀ (k : Nat) (lo : Int), (∀ n, p n = (q n || r n)) → (∀ n, q n = true → r n = true → False) → cnt p lo k = cnt q lo k + cnt r lo k
  | 0, _, _, _ => rfl
  | k + 1, lo, h, hd => by
    rw [cnt, cnt, cnt, cnt_add k (lo + 1) h hd, h lo]
    have := hd lo
    cases h1 : q lo <;> cases h2 : r lo <;> simp [h1, h2] at this ⊢ <;> omega
theorem bit_test (x i : Nat) : bit x i = x.testBit i := (Nat.testBit_eq_decide_div_mod_eq).symm
theorem bit_or (x y i : Nat) : bit (x ||| y) i = (bit x i || bit y i) := by rw [bit_test, bit_test, bit_test, Nat.testBit_or]
theorem bit_not (y i : Nat) (hy : y < 18446744073709551616) (hi : i < 64) : bit (18446744073709551615 - y) i = !bit y i := by
  rw [bit_test, bit_test]
  have h := Nat.testBit_two_pow_sub_succ (n := 64) (x := y) (by simpa using hy) i
  rw [show 2 ^ 64 - (y + 1) = 18446744073709551615 - y by omega] at h
  rw [h]
  simp [hi]
theorem bit_andNot (x y i : Nat) (hy : y < 18446744073709551616) (hi : i < 64) : bit (x &&& (18446744073709551615 - y)) i = (bit x i && !bit y i) := by
  rw [← bit_not y i hy hi, bit_test, bit_test, bit_test, Nat.testBit_and]
theorem bits_out {x : Nat} {base n : Int} (h : has (bitsR x base) n = true) : base + 1 ≤ n ∧ n < base + 1 + 64 := by
  obtain ⟨_, i, hi, _, rfl⟩ := bitsR_has.1 h
  omega
theorem count_bits {l : List Rg} {base : Int} (h : right l = true) (hh : ∀ n, has l n = true → base + 1 ≤ n ∧ n < base + 1 + 64) : countS l = cnt (has l) (base + 1) 64 := by
  rw [countS, if_pos h, count_eq 64 l (base + 1) (okR_of_has h fun n hn => (hh n hn).1) fun n hn => by have := (hh n hn).2; omega]
theorem sets_facts {x y : Nat} (hy : y < 18446744073709551616) {base : Int} (h0 : 0 ≤ base) (h1 : base + 64 ≤ mx) {a b j m : List Rg} (ha : a = bitsR x base) (hb : b = bitsR y base) (hj : j = joinS a b) (hm : m = minusS a b) :
    (∀ k : Nat, k < 64 → hasS j (base + 1 + (k : Int)) = (bit x k || bit y k)) ∧ (∀ k : Nat, k < 64 → hasS m (base + 1 + (k : Int)) = (bit x k && !bit y k)) ∧
    (∀ k : Nat, k < 64 → cnt (has m) (base + 1) (k + 1) = cnt (has m) (base + 1) k + if (bit x k && !bit y k) = true then 1 else 0) ∧
    countS m = cnt (has m) (base + 1) 64 ∧ countS j = cnt (has m) (base + 1) 64 + countS b ∧ (0 ≤ countS b ∧ countS b ≤ 64) ∧ hasS j base = false ∧ hasS j (base + 65) = false ∧
    j = bitsR (x ||| y) base ∧ m = bitsR (x &&& (18446744073709551615 - y)) base := by
  have ra : right a = true := by rw [ha]; exact bitsR_right _ _
  have rb : right b = true := by rw [hb]; exact bitsR_right _ _
  have rj : right j = true := by rw [hj]; exact joinS_right _ _
  have rm : right m = true := by rw [hm]; exact minusS_right _ _
  have ej : ∀ n, has j n = (has a n || has b n) := fun n => by rw [hj, joinS_has ra rb]
  have em : ∀ n, has m n = (has a n && !has b n) := fun n => by rw [hm, minusS_has ra rb]
  have oa : ∀ n, has a n = true → base + 1 ≤ n ∧ n < base + 1 + 64 := fun n h => bits_out (by rw [ha] at h; exact h)
  have ob : ∀ n, has b n = true → base + 1 ≤ n ∧ n < base + 1 + 64 := fun n h => bits_out (by rw [hb] at h; exact h)
  have oj : ∀ n, has j n = true → base + 1 ≤ n ∧ n < base + 1 + 64 := fun n h => by
    rw [ej, Bool.or_eq_true] at h
    exact h.elim (oa n) (ob n)
  have om : ∀ n, has m n = true → base + 1 ≤ n ∧ n < base + 1 + 64 := fun n h => by
    rw [em, Bool.and_eq_true] at h
    exact oa n h.1
  have aa : ∀ k : Nat, k < 64 → has a (base + 1 + (k : Int)) = bit x k := fun k hk => by rw [ha]; exact bitsR_at hk h0 h1
  have ab : ∀ k : Nat, k < 64 → has b (base + 1 + (k : Int)) = bit y k := fun k hk => by rw [hb]; exact bitsR_at hk h0 h1
  have sj : ∀ n, hasS j n = has j n := fun n => by rw [hasS, rj]; rfl
  have sm : ∀ n, hasS m n = has m n := fun n => by rw [hasS, rm]; rfl
  have at_of : ∀ n, base + 1 ≤ n → n < base + 1 + 64 → ∃ k : Nat, k < 64 ∧ n = base + 1 + (k : Int) := fun n h2 h3 => ⟨(n - (base + 1)).toNat, by omega, by omega⟩
  refine ⟨fun k hk => by rw [sj, ej, aa k hk, ab k hk], fun k hk => by rw [sm, em, aa k hk, ab k hk], fun k hk => by rw [cnt_snoc, em, aa k hk, ab k hk], count_bits rm om, ?_, ?_, ?_, ?_, ?_, ?_⟩
  · rw [count_bits rj oj, count_bits rb ob]
    refine cnt_add 64 (base + 1) (fun n => ?_) fun n h2 h3 => ?_
    · rw [ej, em]; cases has a n <;> cases has b n <;> rfl
    · rw [em, h3] at h2; simp at h2
  · rw [count_bits rb ob]; exact cnt_bd _ _ _
  · rw [sj, ← Bool.not_eq_true]; intro h; have := oj _ h; omega
  · rw [sj, ← Bool.not_eq_true]; intro h; have := oj _ h; omega
  · refine right_one rj (bitsR_right _ _) fun n => ?_
    rw [Bool.eq_iff_iff]
    constructor
    · intro h
      obtain ⟨k, hk, rfl⟩ := at_of n (oj n h).1 (oj n h).2
      rw [bitsR_at hk h0 h1, bit_or, ← aa k hk, ← ab k hk, ← ej]; exact h
    · intro h
      obtain ⟨k, hk, rfl⟩ := at_of n (bits_out h).1 (bits_out h).2
      rw [bitsR_at hk h0 h1, bit_or, ← aa k hk, ← ab k hk, ← ej] at h; exact h
  · refine right_one rm (bitsR_right _ _) fun n => ?_
    rw [Bool.eq_iff_iff]
    constructor
    · intro h
      obtain ⟨k, hk, rfl⟩ := at_of n (om n h).1 (om n h).2
      rw [bitsR_at hk h0 h1, bit_andNot x y k hy hk, ← aa k hk, ← ab k hk, ← em]; exact h
    · intro h
      obtain ⟨k, hk, rfl⟩ := at_of n (bits_out h).1 (bits_out h).2
      rw [bitsR_at hk h0 h1, bit_andNot x y k hy hk, ← aa k hk, ← ab k hk, ← em] at h; exact h
end Go.Proofs.Ytaflikgdlkaefaa.Sp
/- Dots: plain mathematics of their bytes and their order. -/
namespace Go.Proofs.Ytaflikgdlkaefaa.Dt
open Go.Proofs.Ytaflikgdlkaefaa.Pl

structure D2 where
  r : Int
  q : Int
deriving DecidableEq
instance : Inhabited D2 := ⟨⟨0, 0⟩⟩
def D2.right (d : D2) : Bool := decide (0 ≤ d.r ∧ d.r < 64 ∧ 1 ≤ d.q ∧ d.q ≤ 1099511627775)
def D2.lt (a b : D2) : Bool := decide (a.r < b.r ∨ a.r = b.r ∧ a.q < b.q)
def D2.bytes (d : D2) : List UInt8 := if d.right = true then UInt8.ofNat d.r.toNat :: enc d.q.toNat else []
def takeD (b : List UInt8) : D2 × Nat × Nat :=
  match b with
  | [] => (⟨0, 0⟩, 0, 20)
  | c :: t => if 64 ≤ c.toNat then (⟨0, 0⟩, 0, 21) else if (takeS t).2.2 ≠ 0 then (⟨0, 0⟩, 0, (takeS t).2.2)
    else if (takeS t).1 < 1 ∨ (takeS t).1 > 1099511627775 then (⟨0, 0⟩, 0, 21) else (⟨(c.toNat : Int), ((takeS t).1 : Int)⟩, (takeS t).2.1 + 1, 0)
theorem right_iff {d : D2} : d.right = true ↔ 0 ≤ d.r ∧ d.r < 64 ∧ 1 ≤ d.q ∧ d.q ≤ 1099511627775 := by simp [D2.right]
theorem bytes_right {d : D2} (h : d.right = true) : d.bytes = UInt8.ofNat d.r.toNat :: enc d.q.toNat := by rw [D2.bytes, if_pos h]
theorem bytes_not {d : D2} (h : d.right = false) : d.bytes = [] := by rw [D2.bytes, if_neg (by simp [h])]
theorem bytes_le (d : D2) : d.bytes.length ≤ 11 := by
  unfold D2.bytes
  have := enc_len d.q.toNat
  split <;> simp <;> omega
theorem bytes_ge {d : D2} (h : d.right = true) : 2 ≤ d.bytes.length := by
  rw [bytes_right h]
  have := enc_len d.q.toNat
  simp; omega
theorem take_bytes {d : D2} (h : d.right = true) (t : List UInt8) : takeD (d.bytes ++ t) = (d, d.bytes.length, 0) := by
  rw [bytes_right h]
  obtain ⟨h1, h2, h3, h4⟩ := right_iff.1 h
  have hq := take_enc d.q.toNat (by omega) t
  show takeD (UInt8.ofNat d.r.toNat :: (enc d.q.toNat ++ t)) = _
  unfold takeD
  simp only [hq, toNat_ofNat (show d.r.toNat < 256 by omega)]
  rw [if_neg (by omega), if_neg (by simp), if_neg (by omega)]
  obtain ⟨r, q⟩ := d
  simp only at *
  rw [show ((r.toNat : Nat) : Int) = r by omega, show ((q.toNat : Nat) : Int) = q by omega]
  simp
theorem takeD_ok {b : List UInt8} (h : (takeD b).2.2 = 0) : (takeD b).1.right = true ∧ (takeD b).1.bytes = b.take (takeD b).2.1 ∧ 2 ≤ (takeD b).2.1 ∧ (takeD b).2.1 ≤ b.length := by
  cases b with
  | nil => simp [takeD] at h
  | cons c t =>
    unfold takeD at h ⊢
    simp only at h ⊢
    by_cases h1 : 64 ≤ c.toNat
    · rw [if_pos h1] at h; simp at h
    rw [if_neg h1] at h ⊢
    by_cases h2 : (takeS t).2.2 ≠ 0
    · rw [if_pos h2] at h; exact absurd h h2
    rw [if_neg h2] at h ⊢
    by_cases h3 : (takeS t).1 < 1 ∨ (takeS t).1 > 1099511627775
    · rw [if_pos h3] at h; simp at h
    rw [if_neg h3]
    have h2' : (takeS t).2.2 = 0 := by omega
    have hr : (⟨(c.toNat : Int), ((takeS t).1 : Int)⟩ : D2).right = true := right_iff.2 ⟨by simp, by simp; omega, by simp; omega, by simp; omega⟩
    obtain ⟨k1, k2, k3, k4, _⟩ := takeS_ok t h2'
    refine ⟨hr, ?_, by simp; omega, by simp; omega⟩
    rw [bytes_right hr]
    simp only [Int.toNat_natCast, UInt8.ofNat_toNat, List.take_succ_cons]
    rw [k4]
theorem takeD_bad {b : List UInt8} (h : (takeD b).2.2 ≠ 0) : (takeD b).1 = ⟨0, 0⟩ ∧ (takeD b).2.1 = 0 := by
  cases b with
  | nil => exact ⟨rfl, rfl⟩
  | cons c t =>
    unfold takeD at h ⊢
    simp only at h ⊢
    split at h
    · rename_i h1; rw [if_pos h1]; exact ⟨rfl, rfl⟩
    · rename_i h1
      rw [if_neg h1]
      split at h
      · rename_i h2; rw [if_pos h2]; exact ⟨rfl, rfl⟩
      · rename_i h2
        rw [if_neg h2]
        split at h
        · rename_i h3; rw [if_pos h3]; exact ⟨rfl, rfl⟩
        · exact absurd rfl h
theorem takeD_err (b : List UInt8) : (takeD b).2.2 = 0 ∨ (takeD b).2.2 = 20 ∨ (takeD b).2.2 = 21 := by
  cases b with
  | nil => exact .inr (.inl rfl)
  | cons c t =>
    unfold takeD
    simp only
    split
    · exact .inr (.inr rfl)
    · split
      · exact takeS_err t
      · split
        · exact .inr (.inr rfl)
        · exact .inl rfl

/-! ### the order -/
theorem lt_iff {a b : D2} : a.lt b = true ↔ a.r < b.r ∨ a.r = b.r ∧ a.q < b.q := by simp [D2.lt]
theorem lt_false {a b : D2} : a.lt b = false ↔ ¬ (a.r < b.r ∨ a.r = b.r ∧ a.q < b.q) := by simp [D2.lt]
theorem lt_irrefl (a : D2) : a.lt a = false := lt_false.2 (by omega)
theorem lt_trans {a b c : D2} (h : a.lt b = true) (h' : b.lt c = true) : a.lt c = true := by rw [lt_iff] at *; omega
theorem lt_asymm {a b : D2} (h : a.lt b = true) : b.lt a = false := by rw [lt_iff] at h; rw [lt_false]; omega
theorem eq_of_not_lt {a b : D2} (h : a.lt b = false) (h' : b.lt a = false) : a = b := by
  rw [lt_false] at h h'
  obtain ⟨a1, a2⟩ := a
  obtain ⟨b1, b2⟩ := b
  simp only at h h'
  have : a1 = b1 ∧ a2 = b2 := by omega
  rw [this.1, this.2]

/-- rising: each above the one ahead -/
def Rise (l : List D2) : Prop := l.Pairwise fun a b => a.lt b = true
/-- two rising lists of the same dots are one -/
theorem Rise.one : ∀ {l m : List D2}, Rise l → Rise m → (∀ x, x ∈ l ↔ x ∈ m) → l = m
  | [], [], _, _, _ => rfl
  | [], y :: m, _, _, h => absurd ((h y).2 (by simp)) (by simp)
  | x :: l, [], _, _, h => absurd ((h x).1 (by simp)) (by simp)
  | x :: l, y :: m, hl, hm, h => by
    obtain ⟨hx, hl'⟩ := List.pairwise_cons.1 hl
    obtain ⟨hy, hm'⟩ := List.pairwise_cons.1 hm
    have e : x = y := by
      rcases List.mem_cons.1 ((h x).1 (by simp)) with e | hxm
      · exact e
      · rcases List.mem_cons.1 ((h y).2 (by simp)) with e | hyl
        · exact e.symm
        · have := lt_asymm (hx y hyl); rw [hy x hxm] at this; cases this
    subst e
    congr 1
    refine Rise.one hl' hm' fun z => ⟨fun hz => ?_, fun hz => ?_⟩
    · rcases List.mem_cons.1 ((h z).1 (by simp [hz])) with e | h'
      · subst e; have := hx z hz; rw [lt_irrefl] at this; cases this
      · exact h'
    · rcases List.mem_cons.1 ((h z).2 (by simp [hz])) with e | h'
      · subst e; have := hy z hz; rw [lt_irrefl] at this; cases this
      · exact h'
/-- one dot into a rising list -/
def insD : List D2 → D2 → List D2
  | [], x => [x]
  | y :: l, x => if y.lt x = true then y :: insD l x else if y = x then y :: l else x :: y :: l
theorem insD_mem : ∀ (l : List D2) (x z : D2), z ∈ insD l x ↔ z = x ∨ z ∈ l
  | [], x, z => by simp [insD]
  | y :: l, x, z => by
    unfold insD
    split
    · simp only [List.mem_cons, insD_mem l x z]
      constructor
      · rintro (h | h | h) <;> simp [h]
      · rintro (h | h | h) <;> simp [h]
    · split
      · rename_i h; subst h; simp
      · simp
theorem insD_rise : ∀ {l : List D2} (x : D2), Rise l → Rise (insD l x)
  | [], x, _ => by simp [insD, Rise]
  | y :: l, x, h => by
    obtain ⟨hy, hl⟩ := List.pairwise_cons.1 h
    unfold insD
    split
    · rename_i hlt
      refine List.pairwise_cons.2 ⟨fun z hz => ?_, insD_rise x hl⟩
      rcases (insD_mem l x z).1 hz with e | hz
      · subst e; exact hlt
      · exact hy z hz
    · rename_i hlt
      split
      · exact h
      · rename_i hne
        have hxy : x.lt y = true := by
          rcases hb : x.lt y with _ | _
          · exact absurd (eq_of_not_lt (by simpa using hlt) hb) hne
          · rfl
        refine List.pairwise_cons.2 ⟨fun z hz => ?_, h⟩
        rcases List.mem_cons.1 hz with e | hz
        · subst e; exact hxy
        · exact lt_trans hxy (hy z hz)
def sortD (l : List D2) : List D2 := l.foldl insD []
theorem sort_gen : ∀ (l o : List D2), Rise o → Rise (l.foldl insD o) ∧ ∀ z, z ∈ l.foldl insD o ↔ z ∈ l ∨ z ∈ o
  | [], o, h => ⟨h, fun z => by simp⟩
  | x :: l, o, h => by
    obtain ⟨h1, h2⟩ := sort_gen l (insD o x) (insD_rise x h)
    refine ⟨h1, fun z => ?_⟩
    rw [List.foldl_cons, h2, insD_mem]
    simp only [List.mem_cons]
    constructor
    · rintro (h | h | h) <;> simp [h]
    · rintro ((h | h) | h) <;> simp [h]
theorem sortD_rise (l : List D2) : Rise (sortD l) := (sort_gen l [] List.Pairwise.nil).1
theorem sortD_mem (l : List D2) (z : D2) : z ∈ sortD l ↔ z ∈ l := by simpa [sortD] using (sort_gen l [] List.Pairwise.nil).2 z
theorem sortD_one {l m : List D2} (h : Rise m) (hm : ∀ z, z ∈ m ↔ z ∈ l) : m = sortD l := Rise.one h (sortD_rise l) fun z => by rw [hm, sortD_mem]
theorem sortD_same {l m : List D2} (h : ∀ z, z ∈ m ↔ z ∈ l) : sortD m = sortD l := sortD_one (sortD_rise m) fun z => by rw [sortD_mem, h]
theorem sortD_self {l : List D2} (h : Rise l) : sortD l = l := (sortD_one h fun _ => Iff.rfl).symm
/-- neighbours that are one, once -/
def cmpD : List D2 → List D2
  | [] => []
  | [x] => [x]
  | x :: y :: l => if x = y then cmpD (y :: l) else x :: cmpD (y :: l)
theorem cmpD_mem : ∀ (l : List D2) (z : D2), z ∈ cmpD l ↔ z ∈ l
  | [], z => by simp [cmpD]
  | [x], z => by simp [cmpD]
  | x :: y :: l, z => by
    unfold cmpD
    split
    · rename_i h; subst h; rw [cmpD_mem (x :: l) z]; simp
    · rw [List.mem_cons, cmpD_mem (y :: l) z]; simp
theorem cmpD_rise : ∀ {l : List D2}, (l.Pairwise fun a b => b.lt a = false) → Rise (cmpD l)
  | [], _ => List.Pairwise.nil
  | [x], _ => by simp [cmpD, Rise]
  | x :: y :: l, h => by
    obtain ⟨hx, hl⟩ := List.pairwise_cons.1 h
    unfold cmpD
    split
    · exact cmpD_rise hl
    · rename_i hne
      refine List.pairwise_cons.2 ⟨fun z hz => ?_, cmpD_rise hl⟩
      have hz' := (cmpD_mem _ z).1 hz
      rcases hb : x.lt z with _ | _
      · have e := eq_of_not_lt hb (hx z hz')
        subst e
        rcases List.mem_cons.1 hz' with e | hz2
        · exact absurd e hne
        · have h1 := (List.pairwise_cons.1 hl).1 x hz2
          have h2 := hx y (by simp)
          exact absurd (eq_of_not_lt h1 h2) hne
      · rfl
theorem sort_compact {l m : List D2} (hs : m.Pairwise fun a b => b.lt a = false) (hm : ∀ z, z ∈ m ↔ z ∈ l) : cmpD m = sortD l := sortD_one (cmpD_rise hs) fun z => by rw [cmpD_mem, hm]
end Go.Proofs.Ytaflikgdlkaefaa.Dt
/- Maps whose elements are plain values, as lists of pairs. -/
namespace Go.Proofs.Ytaflikgdlkaefaa
open Go.RowKit Go.Maps

/-- a map's type: how its keys and its elements stand as values of Lean's -/
structure MT (P : Program) (t k e : TypeId) (α β : Type) where
  mkK : α → Value
  okK : α → Prop
  litK : α → Lit
  mkV : β → Value
  enc : β → DataW Unit
  dec : Value → Option β
  zero : β
  ty : P.underlying t = some (.map k e)
  keyed : Keyed P k
  key : ∀ x, okK x → keyOf P k (mkK x) = some (litK x)
  keyInv : ∀ v l, keyOf P k v = some l → ∃ x, okK x ∧ v = mkK x
  litInj : ∀ x y, okK x → okK y → litK x = litK y → x = y
  decMk : ∀ c, dec (mkV c) = some c
  mkDec : ∀ v c, dec v = some c → v = mkV c
  encInj : ∀ c d, enc c = enc d → c = d
  zeroV : ∀ w, (zeroValue e).run P w = .ok (mkV zero) w

section
variable {P : Program} {t k e : TypeId} {α β : Type}
def MT.R (T : MT P t k e α β) (v : Value) : Option (DataW Unit × List MemPlace) := (T.dec v).map fun c => (T.enc c, [])
def MT.ent (T : MT P t k e α β) (p : α × β) : Lit × DataW Unit := (T.litK p.1, T.enc p.2)
def MapIs (T : MT P t k e α β) (w : World) (b : Nat) (L : List (α × β)) : Prop := (∀ p ∈ L, T.okK p.1) ∧ ∃ es, w.ownsMap P k T.R b L.length (.map es) ∧ es.Perm (L.map T.ent)
def look [DecidableEq α] (L : List (α × β)) (x : α) : Option β := (L.find? fun p => p.1 = x).map (·.2)
def putA [DecidableEq α] (L : List (α × β)) (x : α) (c : β) : List (α × β) := (x, c) :: L.filter fun p => p.1 ≠ x
variable {T : MT P t k e α β} {w w' : World} {b : Nat} {L : List (α × β)}
theorem owns_len {R : Value → Option (DataW Unit × List MemPlace)} {n : Nat} {es : List (Lit × DataW Unit)} (h : w.ownsMap P k R b n (.map es)) : w.ownsMap P k R b es.length (.map es) := by
  obtain ⟨a, clock, h1, h2, _, h4⟩ := h
  refine ⟨a, clock, h1, h2, ?_, h4⟩
  injection h4 with h5
  rw [h5, length_sorted]
  simp
theorem MT.isKey (T : MT P t k e α β) {x : α} (hx : T.okK x) : WideAt.IsKeyLit (T.litK x) := T.keyed.key (T.key x hx)
theorem MapIs.lt (h : MapIs T w b L) : b < w.heap.size := by obtain ⟨_, es, h1, _⟩ := h; exact h1.lt
theorem MapIs.kept (h : MapIs T w b L) {row : Option Nat} (hg : w.grownBy w' row) (hne : some b ≠ row) : MapIs T w' b L := by
  obtain ⟨h0, es, h1, h2⟩ := h
  exact ⟨h0, es, h1.kept hg hne, h2⟩
theorem MapIs.below (h : MapIs T w b L) (hb : Below w.heap.size w w') : MapIs T w' b L :=
  h.kept (row := none) ⟨hb.os, hb.tape, hb.output, hb.size, fun i hi _ => hb.block i hi⟩ (by simp)
theorem MapIs.setCell (h : MapIs T w b L) {a : Addr} (ha : b ≠ a.block) (u : Value) : MapIs T (w.setCell a u) b L := by
  obtain ⟨h0, es, h1, h2⟩ := h
  exact ⟨h0, es, h1.setCell ha u, h2⟩
theorem MapIs.made (T : MT P t k e α β) (w : World) : MapIs T (w.alloc (.map #[] 0)) w.heap.size [] :=
  ⟨fun p h => by simp at h, [], w.ownsMap_made P k T.R, List.Perm.nil⟩
theorem MapIs.apart (h : MapIs T w b L) : L.Pairwise fun p q => p.1 ≠ q.1 := by
  obtain ⟨h0, es, h1, h2⟩ := h
  obtain ⟨es', e1, hap, _⟩ := h1.entries T.keyed
  injection e1 with e1
  subst e1
  have h3 := (h2.pairwise_iff (R := fun p q : Lit × DataW Unit => p.1 ≠ q.1) (fun {_ _} h => Ne.symm h)).1 hap
  rw [List.pairwise_map] at h3
  exact h3.imp fun {p q} hne e => hne (by simp only [MT.ent]; rw [e])
theorem find_mem [DecidableEq α] {x : α} {c : β} (hap : L.Pairwise fun p q => p.1 ≠ q.1) (h : (x, c) ∈ L) : look L x = some c := by
  unfold look
  cases hf : L.find? (fun p => p.1 = x) with
  | none => exact absurd (List.find?_eq_none.1 hf _ h) (by simp)
  | some q =>
    have hq := List.mem_of_find?_eq_some hf
    have hqx : q.1 = x := by simpa using List.find?_some hf
    have : q = (x, c) := by
      have key : ∀ {l : List (α × β)}, l.Pairwise (fun p q => p.1 ≠ q.1) → ∀ {a b}, a ∈ l → b ∈ l → a.1 = b.1 → a = b := by
        intro l
        induction l with
        | nil => intro _ a b ha; cases ha
        | cons y l ih =>
          intro hp a b ha hb e
          obtain ⟨h1, h2⟩ := List.pairwise_cons.1 hp
          rcases List.mem_cons.1 ha with ea | ha'
          · rcases List.mem_cons.1 hb with eb | hb'
            · rw [ea, eb]
            · exact absurd (ea ▸ e) (h1 b hb')
          · rcases List.mem_cons.1 hb with eb | hb'
            · exact absurd (eb ▸ e).symm (h1 a ha')
            · exact ih h2 ha' hb' e
      exact key hap hq h (by rw [hqx])
    simp [this]
theorem look_mem [DecidableEq α] {x : α} {c : β} (h : look L x = some c) : (x, c) ∈ L := by
  unfold look at h
  cases hf : L.find? (fun p => p.1 = x) with
  | none => rw [hf] at h; cases h
  | some q =>
    rw [hf] at h
    simp only [Option.map_some, Option.some.injEq] at h
    have hq := List.mem_of_find?_eq_some hf
    have hqx : q.1 = x := by simpa using List.find?_some hf
    rw [← hqx, ← h]
    exact hq
theorem look_none [DecidableEq α] {x : α} (h : look L x = none) : ∀ p ∈ L, p.1 ≠ x := by
  unfold look at h
  simp only [Option.map_eq_none_iff] at h
  intro p hp e
  exact absurd (List.find?_eq_none.1 h p hp) (by simp [e])
/-- v, ok := m[x] -/
theorem MapIs.look_run [DecidableEq α] (h : MapIs T w b L) {x : α} (hx : T.okK x) : (Instr.lookup t (.map (some b)) (T.mkK x) true).run P w = .ok (.tuple #[T.mkV ((look L x).getD T.zero), .bool (look L x).isSome]) w := by
  have hap := h.apart
  obtain ⟨h0, es, h1, h2⟩ := h
  have hR0 : T.R (T.mkV T.zero) = some (T.enc T.zero, []) := by simp [MT.R, T.decMk]
  obtain ⟨v, ps, hrun, hv⟩ := h1.look_ok T.keyed T.ty (T.zeroV w) hR0 (T.key x hx)
  obtain ⟨es', e1, hape, _⟩ := h1.entries T.keyed
  injection e1 with e1
  subst e1
  simp only [MT.R, Option.map_eq_some_iff] at hv
  obtain ⟨d, hd, hd2⟩ := hv
  have hv2 := T.mkDec v d hd
  simp only [Prod.mk.injEq] at hd2
  rw [hrun]
  cases hl : look L x with
  | none =>
    have hno : ∀ q ∈ es, q.1 ≠ T.litK x := by
      intro q hq e
      obtain ⟨p, hp, rfl⟩ := List.mem_map.1 (h2.mem_iff.1 hq)
      exact look_none hl p hp (T.litInj _ _ (h0 p hp) hx e)
    rw [WideAt.atKey_none _ hno] at hd2
    have hdz : d = T.zero := T.encInj _ _ hd2.1
    have hhas : Maps.has (.map es : DataW Unit) (T.litK x) = false := Maps.has_false_of_atKey fun z => WideAt.atKey_none z hno
    rw [hhas, hv2, hdz]
    rfl
  | some y =>
    have hm : (T.litK x, T.enc y) ∈ es := h2.mem_iff.2 (List.mem_map.2 ⟨(x, y), look_mem hl, rfl⟩)
    rw [WideAt.atKey_mem _ (T.isKey hx) hape hm] at hd2
    have hdz : d = y := T.encInj _ _ hd2.1.symm |>.symm ▸ rfl
    have hhas : Maps.has (.map es : DataW Unit) (T.litK x) = true := Maps.has_true_of_atKey fun z => WideAt.atKey_mem z (T.isKey hx) hape hm
    rw [hhas, hv2, hdz]
    rfl
/-- len(m) -/
theorem MapIs.len_run (h : MapIs T w b L) (ty : TypeId) : (Builtin.len_ #[t] ty #[.map (some b)]).run P w = .ok (.int .i64 (L.length : Nat)) w := by
  obtain ⟨h0, es, h1, h2⟩ := h
  have := h1.len T.ty ty
  rw [this, Maps.size_eq, h2.length_eq, List.length_map]
/-- m[x] = c -/
theorem MapIs.store_run [DecidableEq α] (h : MapIs T w b L) (hn : L.length < maxLen) {x : α} (hx : T.okK x) (c : β) : ∃ w', (Instr.mapUpdate t (.map (some b)) (T.mkK x) (T.mkV c)).run P w = .ok () w' ∧ MapIs T w' b (putA L x c) ∧ w.mapTurned w' b := by
  obtain ⟨h0, es, h1, h2⟩ := h
  obtain ⟨w', hrun, ho, ht⟩ := h1.store T.keyed T.ty hn (T.key x hx) (val := T.mkV c) (d := T.enc c) (ps := []) (by simp [MT.R, T.decMk])
  have hD : (DataW.map es).put (T.litK x) (T.enc c) = .map (DataW.insert (T.litK x, T.enc c) (es.filter fun p => !p.1.sameKey (T.litK x))) := rfl
  rw [hD] at ho
  have hp : (DataW.insert (T.litK x, T.enc c) (es.filter fun p => !p.1.sameKey (T.litK x))).Perm ((putA L x c).map T.ent) := by
    refine (WideShapes.insert_perm _ _).trans ?_
    unfold putA
    rw [List.map_cons]
    refine List.Perm.cons _ ?_
    refine (h2.filter _).trans ?_
    rw [List.filter_map]
    refine List.Perm.of_eq ?_
    congr 1
    refine List.filter_congr fun p hp => ?_
    simp only [Function.comp, MT.ent]
    by_cases e : p.1 = x
    · subst e
      simp [WideAt.sameKey_self (T.isKey hx)]
    · have : (T.litK p.1).sameKey (T.litK x) = false := by
        cases hs : (T.litK p.1).sameKey (T.litK x)
        · rfl
        · exact absurd (T.litInj _ _ (h0 p hp) hx (WideAt.sameKey_eq hs)) e
      simp [this, e]
  refine ⟨w', hrun, ⟨?_, _, ?_, hp⟩, ht⟩
  · intro p hp
    rcases List.mem_cons.1 hp with rfl | hp
    · exact hx
    · exact h0 p (List.mem_filter.1 hp).1
  · have := owns_len ho
    rw [hp.length_eq, List.length_map] at this
    exact this
/-- a range over a map under way: rem are the keys to come -/
def RangeIs [DecidableEq α] (T : MT P t k e α β) (w : World) (b r : Nat) (L : List (α × β)) (rem : List α) : Prop := (∀ p ∈ L, T.okK p.1) ∧ ∃ es left cnt, w.ranges P k T.R b r L.length (.map es) left cnt ∧ es.Perm (L.map T.ent) ∧ rem.Nodup ∧ (∀ x ∈ rem, ∃ c, (x, c) ∈ L) ∧ (∀ x, T.okK x → left (T.litK x) = decide (x ∈ rem))
theorem RangeIs.owns [DecidableEq α] {r : Nat} {rem : List α} (h : RangeIs T w b r L rem) : MapIs T w b L := by
  obtain ⟨h0, es, left, cnt, h1, h2, _⟩ := h
  exact ⟨h0, es, h1.owns, h2⟩
theorem RangeIs.kept [DecidableEq α] {r : Nat} {rem : List α} (h : RangeIs T w b r L rem) {row : Option Nat} (hg : w.grownBy w' row) (hne : some b ≠ row) (hne2 : some r ≠ row) : RangeIs T w' b r L rem := by
  obtain ⟨h0, es, left, cnt, h1, h2⟩ := h
  exact ⟨h0, es, left, cnt, h1.kept hg hne hne2, h2⟩
theorem RangeIs.lt [DecidableEq α] {r : Nat} {rem : List α} (h : RangeIs T w b r L rem) : r < w.heap.size := by obtain ⟨_, _, _, _, h1, _⟩ := h; exact h1.lt
theorem RangeIs.ne [DecidableEq α] {r : Nat} {rem : List α} (h : RangeIs T w b r L rem) : r ≠ b := by obtain ⟨_, _, _, _, h1, _⟩ := h; exact h1.ne
/-- range m -/
theorem MapIs.range_run [DecidableEq α] (h : MapIs T w b L) : ∃ w', (Instr.range t (.map (some b))).run P w = .ok (.pointer (some ⟨w.heap.size, 0, none⟩)) w' ∧ RangeIs T w' b w.heap.size L (L.map (·.1)) ∧ w.grownBy w' none ∧ w'.heap.size = w.heap.size + 1 := by
  have hap := h.apart
  obtain ⟨h0, es, h1, h2⟩ := h
  obtain ⟨w', hrun, hr, hg, hs⟩ := h1.range T.keyed T.ty
  obtain ⟨es', e1, hape, _⟩ := h1.entries T.keyed
  injection e1 with e1
  subst e1
  refine ⟨w', hrun, ⟨h0, es, _, _, hr, h2, ?_, ?_, ?_⟩, hg, hs⟩
  · exact List.pairwise_map.2 hap
  · intro x hx
    obtain ⟨p, hp, rfl⟩ := List.mem_map.1 hx
    exact ⟨p.2, hp⟩
  · intro x hx
    by_cases hm : x ∈ L.map (·.1)
    · rw [decide_eq_true hm]
      obtain ⟨p, hp, rfl⟩ := List.mem_map.1 hm
      have hme : (T.litK p.1, T.enc p.2) ∈ es := h2.mem_iff.2 (List.mem_map.2 ⟨p, hp, rfl⟩)
      exact Maps.has_true_of_atKey fun z => WideAt.atKey_mem z (T.isKey hx) hape hme
    · rw [decide_eq_false hm]
      refine Maps.has_false_of_atKey fun z => WideAt.atKey_none z fun q hq e => hm ?_
      obtain ⟨p, hp, rfl⟩ := List.mem_map.1 (h2.mem_iff.1 hq)
      exact List.mem_map.2 ⟨p, hp, T.litInj _ _ (h0 p hp) hx e⟩
/-- the step -/
theorem RangeIs.next_run [DecidableEq α] {r : Nat} {rem : List α} (h : RangeIs T w b r L rem) (ty : TypeId) :
    (rem = [] ∧ (Instr.next (.pointer (some ⟨r, 0, none⟩)) false ty).run P w = .ok (.tuple #[.bool false]) w) ∨
    ∃ x c w', x ∈ rem ∧ T.okK x ∧ look L x = some c ∧ (Instr.next (.pointer (some ⟨r, 0, none⟩)) false ty).run P w = .ok (.tuple #[.bool true, T.mkK x, T.mkV c]) w' ∧
      RangeIs T w' b r L (rem.erase x) ∧ w.grownBy w' (some r) ∧ w'.heap.size = w.heap.size ∧ (Instr.entry (.pointer (some ⟨r, 0, none⟩))).run P w' = .ok (.tuple #[T.mkK x, T.mkV c]) w' ∧ w'.rangeLeft b r < w.rangeLeft b r := by
  have hap := h.owns.apart
  obtain ⟨h0, es, left, cnt, h1, h2, h3, h4, h5⟩ := h
  obtain ⟨es', e1, hape, _⟩ := h1.owns.entries T.keyed
  injection e1 with e1
  subst e1
  rcases h1.next T.keyed ty with ⟨_, hl, hrun⟩ | ⟨key, v, kl, y, w', cnt', hkey, hlk, hv, hat, hrun, hrg, hlt, hgr, hsz, hen⟩
  · refine .inl ⟨?_, hrun⟩
    cases rem with
    | nil => rfl
    | cons x rem =>
      obtain ⟨c, hc⟩ := h4 x (by simp)
      have := h5 x (h0 _ hc)
      rw [hl] at this
      simp at this
  · obtain ⟨x, hx, rfl⟩ := T.keyInv key kl hkey
    have hkl : kl = T.litK x := Option.some.inj (hkey.symm.trans (T.key x hx))
    subst hkl
    have hxr : x ∈ rem := by
      have := h5 x hx
      rw [hlk] at this
      simpa using this.symm
    obtain ⟨c, hc⟩ := h4 x hxr
    simp only [MT.R, Option.map_eq_some_iff] at hv
    obtain ⟨d, hd, hd2⟩ := hv
    have hv2 := T.mkDec v d hd
    have hme : (T.litK x, T.enc c) ∈ es := h2.mem_iff.2 (List.mem_map.2 ⟨(x, c), hc, rfl⟩)
    have hac := WideAt.atKey_mem (H := Unit) .nil (T.isKey hx) hape hme
    have hdc : d = c := T.encInj _ _ (by
      have h6 := (hat .nil).symm.trans hac
      rw [← hd2] at h6
      exact h6)
    subst hdc
    rw [hv2] at hrun hen
    refine .inr ⟨x, d, w', hxr, hx, find_mem hap hc, hrun, ⟨h0, es, _, _, hrg, h2, h3.erase x, fun y hy => h4 y (List.mem_of_mem_erase hy), fun y hy => ?_⟩, hgr, hsz, hen, by rw [hrg.left_eq, h1.left_eq]; exact hlt⟩
    show (left (T.litK y) && !(T.litK y).sameKey (T.litK x)) = _
    rw [h5 y hy]
    by_cases e : y = x
    · subst e
      have : ¬ y ∈ rem.erase y := fun hm => (h3.mem_erase_iff.1 hm).1 rfl
      simp [WideAt.sameKey_self (T.isKey hx), this]
    · have h7 : (T.litK y).sameKey (T.litK x) = false := by
        cases hs : (T.litK y).sameKey (T.litK x)
        · rfl
        · exact absurd (T.litInj _ _ hy hx (WideAt.sameKey_eq hs)) e
      rw [h7]
      simp [h3.mem_erase_iff, e]
end
end Go.Proofs.Ytaflikgdlkaefaa
/- Maps as lists of pairs: the operations in the walk. -/
namespace Go.Proofs.Ytaflikgdlkaefaa
open Go.RowKit Go.Maps

section
variable {P : Program} {t k e : TypeId} {α β : Type} {T : MT P t k e α β} {w w' : World} {b : Nat} {L : List (α × β)}
/-- v := m[x] -/
theorem MapIs.look1_run [DecidableEq α] (h : MapIs T w b L) {x : α} (hx : T.okK x) : (Instr.lookup t (.map (some b)) (T.mkK x) false).run P w = .ok (T.mkV ((look L x).getD T.zero)) w := by
  have hap := h.apart
  obtain ⟨h0, es, h1, h2⟩ := h
  have hR0 : T.R (T.mkV T.zero) = some (T.enc T.zero, []) := by simp [MT.R, T.decMk]
  obtain ⟨v, ps, hrun, hv⟩ := h1.lookup T.keyed T.ty (T.zeroV w) hR0 (T.key x hx)
  obtain ⟨es', e1, hape, _⟩ := h1.entries T.keyed
  injection e1 with e1
  subst e1
  simp only [MT.R, Option.map_eq_some_iff] at hv
  obtain ⟨d, hd, hd2⟩ := hv
  have hv2 := T.mkDec v d hd
  simp only [Prod.mk.injEq] at hd2
  rw [hrun]
  cases hl : look L x with
  | none =>
    have hno : ∀ q ∈ es, q.1 ≠ T.litK x := by
      intro q hq e
      obtain ⟨p, hp, rfl⟩ := List.mem_map.1 (h2.mem_iff.1 hq)
      exact look_none hl p hp (T.litInj _ _ (h0 p hp) hx e)
    rw [WideAt.atKey_none _ hno] at hd2
    have hdz : d = T.zero := T.encInj _ _ hd2.1
    rw [hv2, hdz]
    rfl
  | some y =>
    have hm : (T.litK x, T.enc y) ∈ es := h2.mem_iff.2 (List.mem_map.2 ⟨(x, y), look_mem hl, rfl⟩)
    rw [WideAt.atKey_mem _ (T.isKey hx) hape hm] at hd2
    have hdz : d = y := T.encInj _ _ hd2.1.symm |>.symm ▸ rfl
    rw [hv2, hdz]
    rfl
def delA [DecidableEq α] (L : List (α × β)) (x : α) : List (α × β) := L.filter fun p => p.1 ≠ x
theorem look_putA [DecidableEq α] (L : List (α × β)) (x : α) (c : β) (y : α) : look (putA L x c) y = if y = x then some c else look L y := by
  unfold look putA
  rw [List.find?_cons]
  by_cases e : x = y
  · subst e; simp
  · rw [if_neg (fun h => e h.symm)]
    simp only [e, decide_false]
    rw [List.find?_filter]
    congr 1
    congr 1
    funext p
    by_cases e2 : p.1 = y
    · subst e2
      have : p.1 ≠ x := fun h => e h.symm
      simp [this]
    · simp [e2]
theorem look_delA [DecidableEq α] (L : List (α × β)) (x y : α) : look (delA L x) y = if y = x then none else look L y := by
  unfold look delA
  rw [List.find?_filter]
  by_cases e : y = x
  · subst e
    rw [if_pos rfl]
    rw [List.find?_eq_none.2 (by
      intro p _
      by_cases e2 : p.1 = y <;> simp [e2])]
    rfl
  · rw [if_neg e]
    congr 1
    congr 1
    funext p
    by_cases e2 : p.1 = y
    · subst e2; simp [e]
    · simp [e2]
/-- two maps that tell the same are the same pairs -/
theorem perm_of_look [DecidableEq α] {L M : List (α × β)} (hL : L.Pairwise fun p q => p.1 ≠ q.1) (hM : M.Pairwise fun p q => p.1 ≠ q.1) (h : ∀ x, look L x = look M x) : L.Perm M := by
  have nd : ∀ {K : List (α × β)}, K.Pairwise (fun p q => p.1 ≠ q.1) → K.Nodup := fun hK => hK.imp fun {p q} h e => h (by rw [e])
  refine (List.perm_ext_iff_of_nodup (nd hL) (nd hM)).2 fun p => ⟨fun hp => ?_, fun hp => ?_⟩
  · exact look_mem ((h p.1).symm.trans (find_mem hL hp))
  · exact look_mem ((h p.1).trans (find_mem hM hp))
theorem apart_put [DecidableEq α] {L : List (α × β)} (hL : L.Pairwise fun p q => p.1 ≠ q.1) (x : α) (c : β) : (putA L x c).Pairwise fun p q => p.1 ≠ q.1 := by
  unfold putA
  refine List.pairwise_cons.2 ⟨fun q hq => ?_, hL.filter _⟩
  have := (List.mem_filter.1 hq).2
  simp at this
  exact fun e => this e.symm
theorem len_putA [DecidableEq α] {L : List (α × β)} (hL : L.Pairwise fun p q => p.1 ≠ q.1) (x : α) (c : β) : (putA L x c).length = if (look L x).isSome then L.length else L.length + 1 := by
  unfold putA
  rw [List.length_cons]
  cases hl : look L x with
  | none =>
    have : L.filter (fun p => decide (p.1 ≠ x)) = L := List.filter_eq_self.2 fun p hp => by simpa using look_none hl p hp
    rw [this]; rfl
  | some d =>
    have hm := look_mem hl
    have h2 : (L.filter fun p => decide (p.1 ≠ x)).length + 1 = L.length := by
      clear hl
      induction L with
      | nil => cases hm
      | cons q L ih =>
        obtain ⟨h1, h3⟩ := List.pairwise_cons.1 hL
        rcases List.mem_cons.1 hm with e | hm'
        · subst e
          have : L.filter (fun p => decide (p.1 ≠ x)) = L := List.filter_eq_self.2 fun p hp => by simpa using fun e => h1 p hp e.symm
          rw [List.filter_cons, if_neg (by simp), this]; rfl
        · have : q.1 ≠ x := h1 _ hm'
          rw [List.filter_cons, if_pos (by simpa using this), List.length_cons, List.length_cons, ← ih h3 hm']
    simpa using h2
/-- delete(m, x) -/
theorem MapIs.drop_run [DecidableEq α] (h : MapIs T w b L) {x : α} (hx : T.okK x) (ty : TypeId) : ∃ w', (Builtin.delete_ #[t, k] ty #[.map (some b), T.mkK x]).run P w = .ok (.tuple #[]) w' ∧ MapIs T w' b (delA L x) ∧ w.mapTurned w' b := by
  obtain ⟨h0, es, h1, h2⟩ := h
  obtain ⟨w', hrun, ho, ht⟩ := h1.drop T.keyed T.ty (T.key x hx) ty
  rw [DataW.del_eq, ChangeMaps.delKey] at ho
  have hp : (es.filter (ChangeMaps.notKey (T.litK x))).Perm ((delA L x).map T.ent) := by
    change (es.filter fun p => !p.1.sameKey (T.litK x)).Perm _
    unfold delA
    refine (h2.filter _).trans ?_
    rw [List.filter_map]
    refine List.Perm.of_eq ?_
    congr 1
    refine List.filter_congr fun p hp => ?_
    simp only [Function.comp, MT.ent]
    by_cases e : p.1 = x
    · subst e
      simp [WideAt.sameKey_self (T.isKey hx)]
    · have : (T.litK p.1).sameKey (T.litK x) = false := by
        cases hs : (T.litK p.1).sameKey (T.litK x)
        · rfl
        · exact absurd (T.litInj _ _ (h0 p hp) hx (WideAt.sameKey_eq hs)) e
      simp [this, e]
  refine ⟨w', hrun, ⟨fun p hp => h0 p (List.mem_filter.1 hp).1, _, ?_, hp⟩, ht⟩
  have := owns_len ho
  rw [hp.length_eq, List.length_map] at this
  exact this
theorem MapIs.clone {b' : Nat} (h : MapIs T w b L) (h' : ∀ D : DataW Unit, w.ownsMap P k T.R b L.length D → w'.ownsMap P k T.R b' L.length D) : MapIs T w' b' L := by
  obtain ⟨h0, es, h1, h2⟩ := h
  exact ⟨h0, es, h' _ h1, h2⟩
theorem MapIs.turned {L' : List (α × β)} {b' : Nat} (h : MapIs T w b' L') (ht : w.mapTurned w' b) (hne : b' ≠ b) : MapIs T w' b' L' := h.kept ht.grown (fun e => hne (Option.some.inj e))
theorem RangeIs.of_walks [DecidableEq α] {r : Nat} {rem : List α} (h : RangeIs T w b r L rem) (hk : KeepsWalks w w') : RangeIs T w' b r L rem := by
  obtain ⟨h0, es, left, cnt, h1, h2⟩ := h
  exact ⟨h0, es, left, cnt, h1.of_walks hk, h2⟩
theorem MapIs.kb (h : MapIs T w b L) (hk : KB w.heap w') : MapIs T w' b L := by
  obtain ⟨h0, es, ⟨es', clock, hb, h1⟩, h2⟩ := h
  exact ⟨h0, es, ⟨es', clock, (hk.2 b (Array.getElem?_eq_some_iff.1 hb).1).trans hb, h1⟩, h2⟩
theorem MapIs.drew (h : MapIs T w b L) : MapIs T w.drew b L := h
theorem MapIs.notCells (h : MapIs T w b L) {cs : Array Value} {ty : TypeId} {fr : Nat × Nat} : w.heap[b]? ≠ some (.cells cs ty fr) := by
  obtain ⟨_, es, ⟨es', clock, hb, _⟩, _⟩ := h
  rw [hb]; simp
theorem decOf_ex {β : Type} (mk : β → Value) : ∃ dec : Value → Option β, (∀ v c, dec v = some c → v = mk c) ∧ ((∀ a b, mk a = mk b → a = b) → ∀ c, dec (mk c) = some c) := by
  classical
  refine ⟨fun v => if h : ∃ c, mk c = v then some h.choose else none, fun v c h => ?_, fun hi c => ?_⟩
  · dsimp only at h
    split at h
    · rename_i hh
      have := hh.choose_spec
      injection h with h
      rw [h] at this
      exact this.symm
    · cases h
  · have hh : ∃ c', mk c' = mk c := ⟨c, rfl⟩
    dsimp only
    rw [dif_pos hh]
    exact congrArg some (hi _ _ hh.choose_spec)
noncomputable def decOf {β : Type} (mk : β → Value) : Value → Option β := (decOf_ex mk).choose
theorem mk_decOf {β : Type} {mk : β → Value} {v : Value} {c : β} (h : decOf mk v = some c) : v = mk c := (decOf_ex mk).choose_spec.1 v c h
theorem decOf_mk {β : Type} {mk : β → Value} (hi : ∀ a b, mk a = mk b → a = b) (c : β) : decOf mk (mk c) = some c := (decOf_ex mk).choose_spec.2 hi c
/-! ### at the operation -/
section
variable {ops : Array Oper} {rest : List Oper} {o : Oper} {a : Act} {Q : Exit → Act → World → Prop} {m x y : Operand}
theorem ex_look [DecidableEq α] (h : MapIs T w b L) (ho : o.op = .lookup t m x true) (hm : a.eval m = .map (some b)) {c : α} (hx : a.eval x = T.mkK c) (hc : T.okK c) :
    (execOp a.eval o).run P w = .ok (.value (.tuple #[T.mkV ((look L c).getD T.zero), .bool (look L c).isSome])) w := by
  have := h.look_run hc
  simp [execOp, ho, hm, hx, this, Result.andThen]
theorem ex_look1 [DecidableEq α] (h : MapIs T w b L) (ho : o.op = .lookup t m x false) (hm : a.eval m = .map (some b)) {c : α} (hx : a.eval x = T.mkK c) (hc : T.okK c) :
    (execOp a.eval o).run P w = .ok (.value (T.mkV ((look L c).getD T.zero))) w := by
  have := h.look1_run hc
  simp [execOp, ho, hm, hx, this, Result.andThen]
theorem mput [DecidableEq α] (hg : o.guard = none) (ho : o.op = .mapUpdate t m x y) (h : MapIs T w b L) (hn : L.length < maxLen) (hm : a.eval m = .map (some b)) {c : α} (hx : a.eval x = T.mkK c) (hc : T.okK c) {d : β} (hy : a.eval y = T.mkV d)
    (hK : ∀ w', MapIs T w' b (putA L c d) → w.mapTurned w' b → wpList P ops Q rest (a.put o.dst undef) w') : wpList P ops Q (o :: rest) a w := by
  refine wpList_plain hg fun K' hK' => ?_
  obtain ⟨w', hrun, h1, h2⟩ := h.store_run hn hc d
  unfold Oper.wp
  simp [execOp, ho, hm, hx, hy, hrun, Result.andThen]
  exact hK' _ _ (hK w' h1 h2)
theorem wp_mput [DecidableEq α] {K : Act → World → Prop} (ho : o.op = .mapUpdate t m x y) (h : MapIs T w b L) (hn : L.length < maxLen) (hm : a.eval m = .map (some b)) {c : α} (hx : a.eval x = T.mkK c) (hc : T.okK c) {d : β} (hy : a.eval y = T.mkV d)
    (hK : ∀ w', MapIs T w' b (putA L c d) → w.mapTurned w' b → K (a.put o.dst undef) w') : o.wp P a w K Q := by
  obtain ⟨w', hrun, h1, h2⟩ := h.store_run hn hc d
  unfold Oper.wp
  simp [execOp, ho, hm, hx, hy, hrun, Result.andThen]
  exact hK w' h1 h2
theorem mlook [DecidableEq α] (hg : o.guard = none) (h : MapIs T w b L) (ho : o.op = .lookup t m x true) (hm : a.eval m = .map (some b)) {c : α} (hx : a.eval x = T.mkK c) (hc : T.okK c)
    (hK : wpList P ops Q rest (a.put o.dst (.tuple #[T.mkV ((look L c).getD T.zero), .bool (look L c).isSome])) w) : wpList P ops Q (o :: rest) a w := by
  refine wpList_plain hg fun K' hK' => ?_
  unfold Oper.wp
  rw [ex_look h ho hm hx hc]
  exact hK' _ _ hK
theorem mlook1 [DecidableEq α] (hg : o.guard = none) (h : MapIs T w b L) (ho : o.op = .lookup t m x false) (hm : a.eval m = .map (some b)) {c : α} (hx : a.eval x = T.mkK c) (hc : T.okK c)
    (hK : wpList P ops Q rest (a.put o.dst (T.mkV ((look L c).getD T.zero))) w) : wpList P ops Q (o :: rest) a w := by
  refine wpList_plain hg fun K' hK' => ?_
  unfold Oper.wp
  rw [ex_look1 h ho hm hx hc]
  exact hK' _ _ hK
theorem mrange [DecidableEq α] (hg : o.guard = none) (ho : o.op = .range t m) (h : MapIs T w b L) (hm : a.eval m = .map (some b))
    (hK : ∀ w', RangeIs T w' b w.heap.size L (L.map (·.1)) → w.grownBy w' none → w'.heap.size = w.heap.size + 1 → wpList P ops Q rest (a.put o.dst (.pointer (some ⟨w.heap.size, 0, none⟩))) w') : wpList P ops Q (o :: rest) a w := by
  refine wpList_plain hg fun K' hK' => ?_
  obtain ⟨w', hrun, h1, h2, h3⟩ := h.range_run
  unfold Oper.wp
  simp [execOp, ho, hm, hrun, Result.andThen]
  exact hK' _ _ (hK w' h1 h2 h3)
theorem mnext [DecidableEq α] (hg : o.guard = none) (ho : o.op = .next x false) {r : Nat} {rem : List α} (h : RangeIs T w b r L rem) (hx : a.eval x = .pointer (some ⟨r, 0, none⟩))
    (hD : rem = [] → wpList P ops Q rest (a.put o.dst (.tuple #[.bool false])) w)
    (hM : ∀ c d w', c ∈ rem → T.okK c → look L c = some d → RangeIs T w' b r L (rem.erase c) → w.grownBy w' (some r) → w'.heap.size = w.heap.size → (Instr.entry (.pointer (some ⟨r, 0, none⟩))).run P w' = .ok (.tuple #[T.mkK c, T.mkV d]) w' → w'.rangeLeft b r < w.rangeLeft b r →
      wpList P ops Q rest (a.put o.dst (.tuple #[.bool true, T.mkK c, T.mkV d])) w') : wpList P ops Q (o :: rest) a w := by
  refine wpList_plain hg fun K' hK' => ?_
  unfold Oper.wp
  rcases h.next_run o.type with ⟨h0, hrun⟩ | ⟨c, d, w', hc, hok, hl, hrun, hr, hgr, hsz, hen, hlt⟩
  · simp [execOp, ho, hx, hrun, Result.andThen]
    exact hK' _ _ (hD h0)
  · simp [execOp, ho, hx, hrun, Result.andThen]
    exact hK' _ _ (hM c d w' hc hok hl hr hgr hsz hen hlt)
variable {F : Fence} {n : Nat}
theorem mrangeI [DecidableEq α] (hg : o.guard = none) (ho : o.op = .range t m) (h : MapIs T w b L) (hm : a.eval m = .map (some b))
    (hK : ∀ w', RangeIs T w' b w.heap.size L (L.map (·.1)) → w.grownBy w' none → w'.heap.size = w.heap.size + 1 → wpListIn F n P ops Q rest (a.put o.dst (.pointer (some ⟨w.heap.size, 0, none⟩))) w') : wpListIn F n P ops Q (o :: rest) a w := by
  refine wpListIn_plain hg fun K' hK' => ?_
  obtain ⟨w', hrun, h1, h2, h3⟩ := h.range_run
  unfold Oper.wpIn
  refine ⟨by simp [Oper.about, ho], ?_⟩
  rw [Oper.semAt_plain F _ _ (by rw [ho]; intro c hc'; cases hc')]
  simp [execOp, ho, hm, hrun, Result.andThen]
  exact hK' _ _ (hK w' h1 h2 h3)
theorem mnextI [DecidableEq α] (hg : o.guard = none) (ho : o.op = .next x false) {r : Nat} {rem : List α} (h : RangeIs T w b r L rem) (hx : a.eval x = .pointer (some ⟨r, 0, none⟩))
    (hD : rem = [] → wpListIn F n P ops Q rest (a.put o.dst (.tuple #[.bool false])) w)
    (hM : ∀ c d w', c ∈ rem → T.okK c → look L c = some d → RangeIs T w' b r L (rem.erase c) → w.grownBy w' (some r) → w'.heap.size = w.heap.size → (Instr.entry (.pointer (some ⟨r, 0, none⟩))).run P w' = .ok (.tuple #[T.mkK c, T.mkV d]) w' → w'.rangeLeft b r < w.rangeLeft b r →
      wpListIn F n P ops Q rest (a.put o.dst (.tuple #[.bool true, T.mkK c, T.mkV d])) w') : wpListIn F n P ops Q (o :: rest) a w := by
  refine wpListIn_plain hg fun K' hK' => ?_
  unfold Oper.wpIn
  refine ⟨by simp [Oper.about, ho], ?_⟩
  rw [Oper.semAt_plain F _ _ (by rw [ho]; intro c hc'; cases hc')]
  rcases h.next_run o.type with ⟨h0, hrun⟩ | ⟨c, d, w', hc, hok, hl, hrun, hr, hgr, hsz, hen, hlt⟩
  · simp [execOp, ho, hx, hrun, Result.andThen]
    exact hK' _ _ (hD h0)
  · simp [execOp, ho, hx, hrun, Result.andThen]
    exact hK' _ _ (hM c d w' hc hok hl hr hgr hsz hen hlt)
end
end
end Go.Proofs.Ytaflikgdlkaefaa
