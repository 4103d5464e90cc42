/- Disks: the program's, in memory. -/
import Derived.Maps.Keyed
import Derived.Maps.AppendAt
import Derived.Lib.SliceRun
import Derived.Laws.IdiomCopy
import Derived.ArgAppend
import Derived.Deep.Upon
import Derived.Laws.Tables
import Derived.Great.BuildSlice
import Derived.Test.YthnbnhlfiehihaaM01
namespace Go.Proofs.Ythnbnhlfiehihaa
open Go.RowKit Go.Maps
set_option maxRecDepth 20000

section
variable {S : Nat → Prop} {w w' : World}
theorem At.grew {g : Nat} {vs : List Value} (h : At w g vs) (hg : Grew S w w') (hn : ¬ S g) : At w' g vs :=
  ⟨Nat.lt_of_lt_of_le h.1 hg.size, fun i v hv => ⟨(hg.cell (p := ⟨g, i, none⟩) h.1 hn).trans (h.2 i v hv).1, (hg.frozen (p := ⟨g, i, none⟩) h.1 hn).trans (h.2 i v hv).2⟩⟩
theorem Sl.grewN {b o B : Nat} {xs : List Value} (h : Sl w B (some ⟨b, o, none⟩) xs) (hg : Grew S w w') (hn : ¬ S b) : Sl w' B (some ⟨b, o, none⟩) xs := by
  rcases h with h | ⟨b', o', e, h1, h2, h3⟩
  · exact .inl h
  · injection e with e
    injection e with e1 e2
    subst e1; subst e2
    exact .inr ⟨b, o, rfl, h1, Nat.lt_of_lt_of_le h2 hg.size, fun j u hu => (hg.cell (p := ⟨b, o + j, none⟩) h2 hn).trans (h3 j u hu)⟩
theorem MapIs.of_block {P : Program} {t k e : TypeId} {α β : Type} {T : MT P t k e α β} {b : Nat} {L : List (α × β)} (h : MapIs T w b L) (hb : w'.heap[b]? = w.heap[b]?) : MapIs T w' b L := by
  obtain ⟨h0, es, ⟨es', clock, hb', h1⟩, h2⟩ := h
  exact ⟨h0, es, ⟨es', clock, hb.trans hb', h1⟩, h2⟩
theorem MapIs.grew {P : Program} {t k e : TypeId} {α β : Type} {T : MT P t k e α β} {b : Nat} {L : List (α × β)} (h : MapIs T w b L) (hg : Grew S w w') (hn : ¬ S b) : MapIs T w' b L := h.of_block (hg.block b h.lt hn)
theorem MapIs.perm {P : Program} {t k e : TypeId} {α β : Type} {T : MT P t k e α β} {b : Nat} {L M : List (α × β)} (h : MapIs T w b L) (hp : L.Perm M) : MapIs T w b M := by
  obtain ⟨h0, es, h1, h2⟩ := h
  refine ⟨fun p hp' => h0 p (hp.mem_iff.2 hp'), es, ?_, h2.trans (hp.map _)⟩
  rw [← hp.length_eq]; exact h1
end

/-- a slice of bytes and a number, as a map's element -/
structure RF where
  g : Option (Nat × Nat)
  l : Nat
  c : Nat
  s : Nat
def adr (g : Option (Nat × Nat)) : Option Addr := g.map fun p => ⟨p.1, p.2, none⟩
theorem adr_inj {a b : Option (Nat × Nat)} (h : adr a = adr b) : a = b := by
  cases a <;> cases b <;> simp_all [adr]
  rename_i p q
  exact Prod.ext h.1 h.2
def RF.v (r : RF) : Value := .agg #[.slice (adr r.g) r.l r.c, .int .i64 (r.s : Int)]
def encN (n : Nat) : DataW Unit := .lit (.int .i64 (n : Int))
def RF.enc (r : RF) : DataW Unit := .agg (encN r.l :: encN r.c :: encN r.s :: (match r.g with | none => [] | some p => [encN p.1, encN p.2]))
theorem encN_inj {a b : Nat} (h : encN a = encN b) : a = b := by
  simp only [encN, DataW.lit.injEq, Lit.int.injEq, true_and] at h
  exact Int.ofNat.inj h
theorem RF.v_inj (a b : RF) (h : a.v = b.v) : a = b := by
  obtain ⟨g, l, c, s⟩ := a
  obtain ⟨g', l', c', s'⟩ := b
  simp only [RF.v, Value.agg.injEq, Array.mk.injEq, List.cons.injEq, Value.slice.injEq, Value.int.injEq, true_and, and_true] at h
  obtain ⟨⟨h1, h2, h3⟩, h4⟩ := h
  have := adr_inj h1
  have h4 := Int.ofNat.inj h4
  subst this; subst h2; subst h3; subst h4
  rfl
theorem RF.enc_inj (a b : RF) (h : a.enc = b.enc) : a = b := by
  obtain ⟨g, l, c, s⟩ := a
  obtain ⟨g', l', c', s'⟩ := b
  simp only [RF.enc, DataW.agg.injEq, List.cons.injEq] at h
  obtain ⟨h1, h2, h3, h4⟩ := h
  have h1 := encN_inj h1
  have h2 := encN_inj h2
  have h3 := encN_inj h3
  subst h1; subst h2; subst h3
  cases g <;> cases g' <;> simp_all
  rename_i p q
  exact Prod.ext (encN_inj h4.1) (encN_inj h4.2)
theorem fileInfo : (Try.prog.info? 59).bind (·.zero) = some (.agg #[.slice none 0 0, .int .i64 0]) := by kernel_rfl
def zeroF : RF := ⟨none, 0, 0, 0⟩
theorem fileZero (w : World) : (zeroValue 59).run Try.prog w = .ok zeroF.v w := by
  have h := fileInfo
  cases hi : Try.prog.info? 59 with
  | none => rw [hi] at h; cases h
  | some i => rw [hi] at h; simp only [Option.bind_some] at h; simp [zeroValue, typeInfo, hi, h, RF.v, zeroF, adr]
theorem key_str (x : Nm) (hx : x.length ≤ maxLen) : keyOf Try.prog 9 (str x) = some (.string x) := by
  simp [keyOf, mapKey, Try.underlying9, str, ByteArray.size, hx]
theorem str_inv (v : Value) (l : Lit) (h : keyOf Try.prog 9 v = some l) : ∃ x : Nm, x.length ≤ maxLen ∧ v = str x := by
  simp only [keyOf, mapKey, Try.underlying9] at h
  cases v with
  | string s =>
    simp only at h
    split at h
    · rename_i hs
      exact ⟨s.data.toList, hs, rfl⟩
    · cases h
  | _ => cases h
noncomputable def MD : MT Try.prog 53 9 59 Nm RF := {
  mkK := str
  okK := fun x => x.length ≤ maxLen
  litK := fun x => .string x
  mkV := RF.v
  enc := RF.enc
  dec := decOf RF.v
  zero := zeroF
  ty := Try.underlying53
  keyed := string_keyed Try.underlying9
  key := key_str
  keyInv := str_inv
  litInj := fun x y _ _ h => by injection h
  decMk := decOf_mk RF.v_inj
  mkDec := fun _ _ h => mk_decOf h
  encInj := RF.enc_inj
  zeroV := fileZero }
/-- a file and where its bytes lie -/
structure FV where
  f : DF
  g : Option (Nat × Nat)
  c : Nat
def FV.raw (v : FV) : RF := ⟨v.g, v.f.b.length, v.c, v.f.s⟩
/-- its bytes lie in a block of H that is none of F -/
def FVat (W : World) (F H : Nat → Prop) (v : FV) : Prop := Sl W W.heap.size (adr v.g) (bv v.f.b) ∧ v.f.b.length ≤ v.c ∧ v.c ≤ maxLen ∧ (v.f.b = [] ∨ ∃ p, v.g = some p ∧ H p.1 ∧ ¬ F p.1)
section
variable {W W' : World} {F F' H H' S : Nat → Prop} {v : FV}
theorem FVat.sl (h : FVat W F H v) : Sl W W.heap.size (adr v.g) (bv v.f.b) := h.1
theorem FVat.grew (h : FVat W F H v) (hg : Grew S W W') (hs : ∀ k, H k → ¬ F k → ¬ S k) : FVat W' F H v := by
  obtain ⟨h1, h2, h3, h4⟩ := h
  refine ⟨?_, h2, h3, h4⟩
  rcases h4 with h4 | ⟨p, hp, hH, hF⟩
  · exact .inl (by rw [h4]; rfl)
  · rw [hp] at h1 ⊢
    exact (Sl.grewN h1 hg (hs _ hH hF)).more hg.size
theorem FVat.mono (h : FVat W F H v) (hH : ∀ k, H k → H' k) (hF : ∀ k, k < W.heap.size → F' k → F k) : FVat W F' H' v := by
  obtain ⟨h1, h2, h3, h4⟩ := h
  refine ⟨h1, h2, h3, ?_⟩
  rcases h4 with h4 | ⟨p, hp, hpH, hpF⟩
  · exact .inl h4
  · by_cases hb : v.f.b = []
    · exact .inl hb
    · refine .inr ⟨p, hp, hH _ hpH, fun hk => hpF (hF _ ?_ hk)⟩
      rcases h1 with h1 | ⟨b, o, e, _, hlt, _⟩
      · exact absurd (by simpa [bv] using h1) hb
      · rw [hp] at e
        injection e with e
        injection e with e1 e2
        rw [e1]; exact hlt
theorem FVat.nil (W : World) (F H : Nat → Prop) (s : Nat) : FVat W F H ⟨⟨[], s⟩, none, 0⟩ := ⟨.inl rfl, Nat.le_refl _, Nat.zero_le _, .inl rfl⟩
end
/-- the program's disk: its box, its map; F is what it may turn, H besides what its files' bytes lie in -/
def PD (W : World) (p : Nat) (F H : Nat → Prop) (s : DK) : Prop :=
  ∃ (mb : Nat) (G : List (Nm × FV)), At W p [.map (some mb), .int .i64 (s.room : Int), .int .i64 (usedR s.R : Int), .int .i64 s.calls, .int .i64 s.arm, .int .i64 s.keep, .bool s.off] ∧ MapIs MD W mb (mapN FV.raw G) ∧ mapN FV.f G = s.R ∧ (∀ q ∈ G, FVat W F H q.2) ∧
    F p ∧ F mb ∧ (∀ k, F k → H k) ∧ ∀ k, H k → k < W.heap.size
section
variable {W W' : World} {F H H' S : Nat → Prop} {p : Nat} {s s' : DK}
theorem PD.grew (h : PD W p F H s) (hg : Grew S W W') (hs : ∀ k, H k → ¬ S k) : PD W' p F H s := by
  obtain ⟨mb, G, h1, h2, h3, h4, h5, h6, h7, h8⟩ := h
  exact ⟨mb, G, h1.grew hg (hs _ (h7 _ h5)), h2.grew hg (hs _ (h7 _ h6)), h3, fun q hq => (h4 q hq).grew hg (fun k hk _ => hs k hk), h5, h6, h7, fun k hk => Nat.lt_of_lt_of_le (h8 k hk) hg.size⟩
theorem PD.below (h : PD W p F H s) (hb : Below W.heap.size W W') : PD W' p F H s := h.grew (S := fun _ => False) (Grew.below hb) (fun _ _ => id)
theorem PD.drew (h : PD W p F H s) : PD W.drew p F H s := h
theorem PD.kb (h : PD W p F H s) (hk : KB W.heap W') : PD W' p F H s := by
  obtain ⟨mb, G, h1, h2, h3, h4, h5, h6, h7, h8⟩ := h
  refine ⟨mb, G, ?_, h2.kb hk, h3, fun q hq => ?_, h5, h6, h7, fun k hk' => Nat.lt_of_lt_of_le (h8 k hk') hk.1⟩
  · refine ⟨Nat.lt_of_lt_of_le h1.1 hk.1, fun i v hv => ?_⟩
    have hb := hk.2 p h1.1
    exact ⟨(World.cell?_of_block (w := W) hb).trans (h1.2 i v hv).1, (World.frozen?_of_block (w := W) hb).trans (h1.2 i v hv).2⟩
  · obtain ⟨k1, k2, k3, k4⟩ := h4 q hq
    refine ⟨?_, k2, k3, k4⟩
    rcases k1 with k1 | ⟨b, o, e, _, hlt, hc⟩
    · exact .inl k1
    · exact .inr ⟨b, o, e, Nat.lt_of_lt_of_le hlt hk.1, Nat.lt_of_lt_of_le hlt hk.1, fun j u hu => (World.cell?_of_block (a := ⟨b, o + j, none⟩) (w := W) (hk.2 b hlt)).trans (hc j u hu)⟩
theorem PD.more (h : PD W p F H s) (hH : ∀ k, H k → H' k) (hlt : ∀ k, H' k → k < W.heap.size) : PD W p F H' s := by
  obtain ⟨mb, G, h1, h2, h3, h4, h5, h6, h7, h8⟩ := h
  exact ⟨mb, G, h1, h2, h3, fun q hq => (h4 q hq).mono hH (fun _ _ => id), h5, h6, fun k hk => hH k (h7 k hk), hlt⟩
theorem PD.lt (h : PD W p F H s) : ∀ k, H k → k < W.heap.size := by obtain ⟨mb, G, h1, h2, h3, h4, h5, h6, h7, h8⟩ := h; exact h8
theorem PD.box (h : PD W p F H s) : ∃ mb, At W p [.map (some mb), .int .i64 (s.room : Int), .int .i64 (usedR s.R : Int), .int .i64 s.calls, .int .i64 s.arm, .int .i64 s.keep, .bool s.off] ∧ F p ∧ F mb := by obtain ⟨mb, G, h1, h2, h3, h4, h5, h6, h7, h8⟩ := h; exact ⟨mb, h1, h5, h6⟩
theorem raw_look {G : List (Nm × FV)} (x : Nm) : look (mapN FV.raw G) x = (look G x).map FV.raw := mapN_look _ _ _
theorem f_look {G : List (Nm × FV)} {R : DR} (h : mapN FV.f G = R) (x : Nm) : look R x = (look G x).map FV.f := by rw [← h]; exact mapN_look _ _ _
end
end Go.Proofs.Ythnbnhlfiehihaa
/- Rows of elements of whatever cells (plain ones): rows of the call's own, append, rows turned where they lie. -/
namespace Go.Proofs.Ythnbnhlfiehihaa
open Go.RowKit

/-- an element's type: its cells -/
structure ET (P : Program) (t e : TypeId) (α : Type) where
  n : Nat
  bytes : Nat
  cells : α → List Value
  zero : α
  z : Value
  ty : P.underlying t = some (.slice e)
  info : (P.info? e).map (fun i => (i.zero, i.size, i.bytes)) = some (some z, n, bytes)
  zc : z.cells.size = n
  pos : 0 < n
  len : ∀ x, (cells x).length = n
  one : ∀ x, ∀ u ∈ cells x, u.oneCell' = true
  small : bytes ≤ 1000
  ncap : n ≤ 1000 := by omega
section
variable {P : Program} {t e : TypeId} {α : Type}
def ET.dv (E : ET P t e α) (l : List α) : List Value := l.flatMap E.cells
def ET.Own (E : ET P t e α) (w : World) (base : Nat) (v : Value) (l : List α) : Prop := w.ownsRow base e E.n v l.length (E.dv l)
variable {E : ET P t e α}
theorem ET.dv_len (l : List α) : (E.dv l).length = l.length * E.n := by
  induction l with
  | nil => simp [ET.dv]
  | cons x l ih =>
    have : E.dv (x :: l) = E.cells x ++ E.dv l := by simp [ET.dv]
    rw [this, List.length_append, ih, E.len, List.length_cons, Nat.add_mul]
    omega
theorem ET.dv_append (l k : List α) : E.dv (l ++ k) = E.dv l ++ E.dv k := by simp [ET.dv]
theorem ET.dv_cons (x : α) (l : List α) : E.dv (x :: l) = E.cells x ++ E.dv l := by simp [ET.dv]
theorem ET.dv_one (l : List α) : ∀ u ∈ E.dv l, u.oneCell' = true := by
  intro u hu
  obtain ⟨d, _, h⟩ := List.mem_flatMap.1 hu
  exact E.one d u h
theorem ET.dv_get : ∀ (l : List α) (k j : Nat) (s : α), l[k]? = some s → j < E.n → (E.dv l)[k * E.n + j]? = (E.cells s)[j]?
  | [], k, j, s, h, _ => by simp at h
  | x :: l, 0, j, s, h, hj => by
    obtain rfl : x = s := by simpa using h
    rw [ET.dv_cons, Nat.zero_mul, Nat.zero_add, List.getElem?_append_left (by rw [E.len]; exact hj)]
  | x :: l, k + 1, j, s, h, hj => by
    have h' : l[k]? = some s := by simpa using h
    rw [ET.dv_cons, List.getElem?_append_right (by rw [E.len, Nat.add_mul]; omega), E.len]
    rw [show (k + 1) * E.n + j - E.n = k * E.n + j by rw [Nat.add_mul]; omega]
    exact ET.dv_get l k j s h' hj
theorem ET.dv_take (l : List α) (k : Nat) : (E.dv l).take (k * E.n) = E.dv (l.take k) := by
  induction l generalizing k with
  | nil => simp [ET.dv]
  | cons x l ih =>
    cases k with
    | zero => simp [ET.dv]
    | succ k =>
      rw [List.take_succ_cons, ET.dv_cons, ET.dv_cons, ← ih, List.take_append, E.len]
      rw [List.take_of_length_le (by rw [E.len, Nat.add_mul]; omega)]
      congr 2
      rw [Nat.add_mul]; omega
theorem ET.dv_drop (l : List α) (k : Nat) : (E.dv l).drop (k * E.n) = E.dv (l.drop k) := by
  induction l generalizing k with
  | nil => simp [ET.dv]
  | cons x l ih =>
    cases k with
    | zero => simp [ET.dv]
    | succ k =>
      rw [List.drop_succ_cons, ET.dv_cons, ← ih, List.drop_append, E.len]
      rw [List.drop_of_length_le (by rw [E.len, Nat.add_mul]; omega), List.nil_append]
      congr 1
      rw [Nat.add_mul]; omega
theorem ET.dv_nil_of {l : List α} (h : E.dv l = []) : l = [] := by
  have h1 := E.dv_len l
  rw [h] at h1
  have h2 := E.pos
  cases l with
  | nil => rfl
  | cons x l => rw [List.length_cons, Nat.add_mul] at h1; simp at h1; omega
variable {w w' : World} {base : Nat} {v : Value} {l : List α}
theorem ET.Own.nil (w : World) (base : Nat) : E.Own w base (.slice none 0 0) [] := World.ownsRow_nil w base _ E.n
theorem ET.Own.form (h : E.Own w base v l) : ∃ A c, v = .slice A l.length c ∧ l.length ≤ c ∧ c ≤ maxLen ∧ Sl w w.heap.size A (E.dv l) ∧ (A = none → l = [] ∧ c = 0) ∧ (∀ a, A = some a → base ≤ a.block ∧ a.off = 0 ∧ a.spot = none) := by
  rcases h.2 with ⟨rfl, hn⟩ | ⟨g, cap, cur, rfl, hb, hg, hn, hm, hcs, ht⟩
  · have := List.eq_nil_of_length_eq_zero hn
    subst this
    exact ⟨none, 0, rfl, by simp, by simp [maxLen], .inl rfl, (fun _ => ⟨rfl, rfl⟩), (fun a h => (by cases h))⟩
  · have hlt : g < w.heap.size := (Array.getElem?_eq_some_iff.1 hg).1
    refine ⟨_, cap, rfl, hn, hm, .inr ⟨g, 0, rfl, hlt, hlt, fun j u hu => ?_⟩, (fun h => (by cases h)), (fun a h => by cases h; exact ⟨hb, rfl, rfl⟩)⟩
    have := h.cells (g := g) rfl j u hu
    rw [Nat.zero_add]
    rw [addr0] at this
    exact this
theorem ET.Own.below (h : E.Own w base v l) (hb : Below w.heap.size w w') : E.Own w' base v l :=
  World.ownsRow.kept h (row := none) ⟨hb.os, hb.tape, hb.output, hb.size, fun k hk _ => hb.block k hk⟩ (by cases hv : v.ownBlock <;> simp)
theorem ET.Own.keep (h : E.Own w base v l) {row : Option Nat} (hg : w.grownBy w' row) (hne : v.ownBlock = none ∨ v.ownBlock ≠ row) : E.Own w' base v l := World.ownsRow.kept h hg hne
theorem ET.Own.head (h : E.Own w base v l) (hn : 0 < l.length) : ∃ g cap, v = .slice (some ⟨g, 0, none⟩) l.length cap ∧ base ≤ g ∧ g < w.heap.size ∧ l.length ≤ cap ∧ cap ≤ maxLen := by
  rcases h.2 with ⟨_, h0⟩ | ⟨g, cap, cur, rfl, hb, hg, h1, h2, _⟩
  · omega
  · exact ⟨g, cap, rfl, hb, (Array.getElem?_eq_some_iff.1 hg).1, h1, h2⟩
theorem ET.Own.lt' (h : E.Own w base v l) : ∀ g, v.ownBlock = some g → base ≤ g ∧ g < w.heap.size := fun g hg => World.ownsRow.lt h g hg
theorem ET.Own.below_of {wr w1 : World} {x : Value} {B : Nat} {l : List α} (hown : E.Own wr B x l) (hb : Below B w wr) (hB : B ≤ wr.heap.size) (hg : wr.grownBy w1 x.ownBlock) : Below B w w1 :=
  hb.trans (below_of_grown hg (fun g e => (hown.lt' g e).1) hB)
theorem ET.Own.lower {base' : Nat} (h : E.Own w base v l) (hb : base' ≤ base) : E.Own w base' v l := by
  refine ⟨h.1, ?_⟩
  rcases h.2 with h' | ⟨g, cap, cur, e, hg, h'⟩
  · exact .inl h'
  · exact .inr ⟨g, cap, cur, e, Nat.le_trans hb hg, h'⟩
theorem ET.Own.lit (w : World) (l : List α) (hm : l.length ≤ maxLen) {us : Array Value} (hu : us.toList = E.dv l) : E.Own (w.alloc (.cells us e)) w.heap.size (.slice (some ⟨w.heap.size, 0, none⟩) l.length l.length) l := by
  have h1 : us.size = l.length * E.n := by rw [← Array.length_toList, hu, E.dv_len]
  have := World.ownsRow_lit (base := w.heap.size) (e := e) (size := E.n) w us l.length (Nat.le_refl _) hm h1
  rw [hu] at this
  exact this
theorem run_appE (w : World) (ty : TypeId) (hown : E.Own w base v l) {B : Nat} {A : Option Addr} {m c : Nat} {k : List α} (hr : Sl w B A (E.dv k)) (hm : m = k.length)
    (hl : l.length + k.length ≤ 100000000000) (hbase : base ≤ w.heap.size) :
    ∃ v' w', (Builtin.append_ #[t, t] ty #[v, .slice A m c]).run P w = .ok v' w' ∧ E.Own w' base v' (l ++ k) ∧ w.grownBy w' v.ownBlock ∧ (v' = .slice none 0 0 ↔ v = .slice none 0 0 ∧ m = 0) ∧ (v'.ownBlock = v.ownBlock ∨ v'.ownBlock = some w.heap.size) := by
  subst hm
  obtain ⟨i, hi, hz, hz1, hz2⟩ := info_parts E.info
  rcases A with _ | ad
  · have hk : k = [] := by
      rcases hr with h | ⟨b, o, h, _⟩
      · exact E.dv_nil_of h
      · cases h
    subst hk
    refine ⟨v, w, ?_, by simpa using hown, World.grownBy.refl w _, by simp, .inl rfl⟩
    rcases hown.2 with ⟨e, h0⟩ | ⟨g, cap', cur, e, hb0, hg0, hnc0, _⟩
    · subst e
      simp [Builtin.append_, run_underlying E.ty, sizeOf, typeInfo, hi, Builtin.lenOf, Builtin.firstCells]
    · subst e
      simp [Builtin.append_, run_underlying E.ty, sizeOf, typeInfo, hi, Builtin.lenOf, Builtin.firstCells, loadCells, hnc0, storeCells]
  · have hsm := E.small
    obtain ⟨v', w', hrun, h2, h3, h4, h5⟩ := run_append_own_at (P := P) w base t ty e i E.z E.n E.bytes E.ty hi hz hz1 hz2 E.zc E.pos v l.length (E.dv l) hown ad k.length c (E.dv k)
      (E.dv_len k) (fun j u hu => by
        rcases hr with h | ⟨b, o, h, _, _, hc⟩
        · rw [h] at hu; simp at hu
        · injection h with h
          subst h
          have : (⟨b, o, none⟩ : Addr).add j = ⟨b, o + j, none⟩ := by
            unfold Addr.add
            split
            · rename_i h0; subst h0; rfl
            · rfl
          rw [this]; exact hc j u hu) (E.dv_one k) (by simp only [maxLen]; omega) (Nat.le_trans (Nat.mul_le_mul_left _ hsm) (by omega)) hbase
    exact ⟨v', w', hrun, by rw [ET.Own, ET.dv_append, List.length_append]; exact h2, h3, h4, h5⟩
theorem run_appFE (w : World) (ty : TypeId) {B B' : Nat} {A A' : Option Addr} {n m c cap : Nat} {l k : List α} (hs : Sl w B A (E.dv l)) (hn : n = l.length) (hr : Sl w B' A' (E.dv k)) (hm : m = k.length)
    (hfull : cap < n + m) (hnil : A = none → n = 0 ∧ cap = 0) (hle : n ≤ cap) (hbytes : l.length + k.length ≤ 100000000000) :
    ∃ v' w', (Builtin.append_ #[t, t] ty #[.slice A n cap, .slice A' m c]).run P w = .ok v' w' ∧ E.Own w' w.heap.size v' (l ++ k) ∧ w.grownBy w' none := by
  subst hn hm
  obtain ⟨i, hi, hz, hz1, hz2⟩ := info_parts E.info
  have hkpos : 0 < k.length := by omega
  have hsm := E.small
  have hp := E.pos
  obtain ⟨b', o', e', _, _, hc'⟩ := hr.at_ (k := 0) (by rw [E.dv_len]; exact Nat.mul_pos hkpos hp)
  subst e'
  have hadd : ∀ (b o j : Nat), (⟨b, o, none⟩ : Addr).add j = ⟨b, o + j, none⟩ := by
    intro b o j
    unfold Addr.add
    split
    · rename_i h0; subst h0; rfl
    · rfl
  cases A with
  | none =>
    obtain ⟨h0, rfl⟩ := hnil rfl
    have hl : l = [] := List.eq_nil_of_length_eq_zero h0
    subst hl
    obtain ⟨v', w', h1, h2, h3, _⟩ := run_appE w ty (ET.Own.nil (E := E) w w.heap.size) hr (c := c) rfl hbytes (Nat.le_refl _)
    exact ⟨v', w', h1, h2, h3⟩
  | some a =>
    have holds : ∀ j u, (E.dv l)[j]? = some u → w.cell? (a.add j) = some u := by
      intro j u hu
      rcases hs with h | ⟨b, o, e, _, _, hc⟩
      · rw [h] at hu; cases hu
      · cases e
        rw [hadd]
        exact hc j u hu
    obtain ⟨v', w', hrun, h2, h3⟩ := run_append_arg_grows (P := P) w t ty e i E.z E.n E.bytes E.ty hi hz hz1 hz2 E.zc E.pos a l.length cap (E.dv l) (E.dv_len l) holds
      ⟨b', o', none⟩ k.length c (E.dv k) (E.dv_len k) (fun j u hu => by rw [hadd]; exact hc' j u hu) hfull (by simp only [maxLen]; omega) (Nat.le_trans (Nat.mul_le_mul_left _ hsm) (by omega))
    exact ⟨v', w', hrun, by rw [ET.Own, ET.dv_append, List.length_append]; exact h2, h3⟩
section
variable {ops : Array Oper} {rest : List Oper} {o : Oper} {a : Act} {Q : Exit → Act → World → Prop} {w : World} {s x : Operand}
theorem wp_appE {K : Act → World → Prop} (ho : o.op = .call { callee := .builtin .append, args := #[s, x], argTypes := #[t, t] })
    {base : Nat} {v : Value} {l : List α} (hown : E.Own w base v l) {B : Nat} {A : Option Addr} {m c : Nat} {k : List α} (hr : Sl w B A (E.dv k)) (hm : m = k.length)
    (hs : a.eval s = v) (hx : a.eval x = .slice A m c) (hl : l.length + k.length ≤ 100000000000) (hbase : base ≤ w.heap.size)
    (h : ∀ v' w', E.Own w' base v' (l ++ k) → w.grownBy w' v.ownBlock → (v'.ownBlock = v.ownBlock ∨ v'.ownBlock = some w.heap.size) → K (a.put o.dst v') w') : o.wp P a w K Q := by
  obtain ⟨v', w', hrun, h2, h3, _, h4⟩ := run_appE w o.type hown hr hm hl hbase (c := c)
  unfold Oper.wp execOp
  simp only [ho, resolve, invoke, builtin, Sem.run_bind, Sem.run_pure, Result.andThen_ok, List.map_toArray, List.map_cons, List.map_nil, hs, hx, hrun]
  exact h v' w' h2 h3 h4
theorem appE (hgd : o.guard = none) (ho : o.op = .call { callee := .builtin .append, args := #[s, x], argTypes := #[t, t] })
    {base : Nat} {v : Value} {l : List α} (hown : E.Own w base v l) {B : Nat} {A : Option Addr} {m c : Nat} {k : List α} (hr : Sl w B A (E.dv k)) (hm : m = k.length)
    (hs : a.eval s = v) (hx : a.eval x = .slice A m c) (hl : l.length + k.length ≤ 100000000000) (hbase : base ≤ w.heap.size)
    (h : ∀ v' w', E.Own w' base v' (l ++ k) → w.grownBy w' v.ownBlock → (v'.ownBlock = v.ownBlock ∨ v'.ownBlock = some w.heap.size) → wpList P ops Q rest (a.put o.dst v') w') : wpList P ops Q (o :: rest) a w :=
  wpList_plain hgd fun _ hK => wp_appE ho hown hr hm hs hx hl hbase fun v' w' h2 h3 h4 => hK _ _ (h v' w' h2 h3 h4)
theorem appEG (hgd : Region.wanted o (yielded ops a.tmps) = true) (ho : o.op = .call { callee := .builtin .append, args := #[s, x], argTypes := #[t, t] })
    {base : Nat} {v : Value} {l : List α} (hown : E.Own w base v l) {B : Nat} {A : Option Addr} {m c : Nat} {k : List α} (hr : Sl w B A (E.dv k)) (hm : m = k.length)
    (hs : a.eval s = v) (hx : a.eval x = .slice A m c) (hl : l.length + k.length ≤ 100000000000) (hbase : base ≤ w.heap.size)
    (h : ∀ v' w', E.Own w' base v' (l ++ k) → w.grownBy w' v.ownBlock → (v'.ownBlock = v.ownBlock ∨ v'.ownBlock = some w.heap.size) → wpList P ops Q rest (a.put o.dst v') w') : wpList P ops Q (o :: rest) a w :=
  BigFrame.wpList_want hgd fun _ hK => wp_appE ho hown hr hm hs hx hl hbase fun v' w' h2 h3 h4 => hK _ _ (h v' w' h2 h3 h4)
theorem wp_appFE {K : Act → World → Prop} (ho : o.op = .call { callee := .builtin .append, args := #[s, x], argTypes := #[t, t] })
    {B B' : Nat} {A A' : Option Addr} {n m c cap : Nat} {l k : List α} (hsl : Sl w B A (E.dv l)) (hn : n = l.length) (hr : Sl w B' A' (E.dv k)) (hm : m = k.length)
    (hs : a.eval s = .slice A n cap) (hx : a.eval x = .slice A' m c) (hfull : cap < n + m) (hnil : A = none → n = 0 ∧ cap = 0) (hle : n ≤ cap) (hbytes : l.length + k.length ≤ 100000000000)
    (h : ∀ v' w', E.Own w' w.heap.size v' (l ++ k) → w.grownBy w' none → K (a.put o.dst v') w') : o.wp P a w K Q := by
  obtain ⟨v', w', hrun, h2, h3⟩ := run_appFE w o.type hsl hn hr (c := c) hm hfull hnil hle hbytes
  unfold Oper.wp execOp
  simp only [ho, resolve, invoke, builtin, Sem.run_bind, Sem.run_pure, Result.andThen_ok, List.map_toArray, List.map_cons, List.map_nil, hs, hx, hrun]
  exact h v' w' h2 h3
theorem appFE (hgd : o.guard = none) (ho : o.op = .call { callee := .builtin .append, args := #[s, x], argTypes := #[t, t] })
    {B B' : Nat} {A A' : Option Addr} {n m c cap : Nat} {l k : List α} (hsl : Sl w B A (E.dv l)) (hn : n = l.length) (hr : Sl w B' A' (E.dv k)) (hm : m = k.length)
    (hs : a.eval s = .slice A n cap) (hx : a.eval x = .slice A' m c) (hfull : cap < n + m) (hnil : A = none → n = 0 ∧ cap = 0) (hle : n ≤ cap) (hbytes : l.length + k.length ≤ 100000000000)
    (h : ∀ v' w', E.Own w' w.heap.size v' (l ++ k) → w.grownBy w' none → wpList P ops Q rest (a.put o.dst v') w') : wpList P ops Q (o :: rest) a w :=
  wpList_plain hgd fun _ hK => wp_appFE ho hsl hn hr hm hs hx hfull hnil hle hbytes fun v' w' h2 h3 => hK _ _ (h v' w' h2 h3)
theorem appFEG (hgd : Region.wanted o (yielded ops a.tmps) = true) (ho : o.op = .call { callee := .builtin .append, args := #[s, x], argTypes := #[t, t] })
    {B B' : Nat} {A A' : Option Addr} {n m c cap : Nat} {l k : List α} (hsl : Sl w B A (E.dv l)) (hn : n = l.length) (hr : Sl w B' A' (E.dv k)) (hm : m = k.length)
    (hs : a.eval s = .slice A n cap) (hx : a.eval x = .slice A' m c) (hfull : cap < n + m) (hnil : A = none → n = 0 ∧ cap = 0) (hle : n ≤ cap) (hbytes : l.length + k.length ≤ 100000000000)
    (h : ∀ v' w', E.Own w' w.heap.size v' (l ++ k) → w.grownBy w' none → wpList P ops Q rest (a.put o.dst v') w') : wpList P ops Q (o :: rest) a w :=
  BigFrame.wpList_want hgd fun _ hK => wp_appFE ho hsl hn hr hm hs hx hfull hnil hle hbytes fun v' w' h2 h3 => hK _ _ (h v' w' h2 h3)
end
/-! ### a row that may be turned where it lies -/
def ET.Row (E : ET P t e α) (w : World) (g : Nat) (l : List α) : Prop := g < w.heap.size ∧ ∀ j u, (E.dv l)[j]? = some u → w.cell? ⟨g, j, none⟩ = some u ∧ w.frozen? ⟨g, j, none⟩ = false
theorem ET.Row.below {g : Nat} (h : E.Row w g l) (hb : Below w.heap.size w w') : E.Row w' g l :=
  ⟨Nat.lt_of_lt_of_le h.1 hb.size, fun j u hj => by
    obtain ⟨h1, h2⟩ := h.2 j u hj
    exact ⟨(hb.cell h.1).trans h1, (hb.frozen h.1).trans h2⟩⟩
theorem ET.Row.at_ {g : Nat} (h : E.Row w g l) : At w g (E.dv l) := h
theorem ET.Row.sl {g : Nat} (h : E.Row w g l) : Sl w w.heap.size (some ⟨g, 0, none⟩) (E.dv l) := At.sl h
theorem ET.Row.take {g : Nat} (h : E.Row w g l) (n : Nat) : E.Row w g (l.take n) := by
  refine ⟨h.1, fun j u hj => h.2 j u ?_⟩
  rw [← ET.dv_take, List.getElem?_take] at hj
  split at hj
  · exact hj
  · cases hj
theorem ET.Own.row {g c : Nat} (h : E.Own w base (.slice (some ⟨g, 0, none⟩) l.length c) l) : E.Row w g l := by
  refine ⟨(h.lt' g rfl).2, fun j u hj => ?_⟩
  have hlt : j < (E.dv l).length := (List.getElem?_eq_some_iff.1 hj).1
  rw [E.dv_len] at hlt
  have c0 := World.ownsRow.cellAt h j hlt
  exact ⟨c0.trans hj, World.ownsRow.frozenAt h _⟩
/-- an element's cells in a slice -/
theorem ET.cell_at {B : Nat} {A : Option Addr} (h : Sl w B A (E.dv l)) {k : Nat} {s : α} (hs : l[k]? = some s) : ∃ b o, A = some ⟨b, o, none⟩ ∧ b < w.heap.size ∧ b < B ∧ ∀ j u, (E.cells s)[j]? = some u → w.cell? ⟨b, o + (k * E.n + j), none⟩ = some u := by
  have hk : k < l.length := (List.getElem?_eq_some_iff.1 hs).1
  obtain ⟨b, o, e, h1, h2, hc⟩ := h.at_ (k := 0) (by rw [E.dv_len]; exact Nat.mul_pos (by omega) E.pos)
  refine ⟨b, o, e, h2, h1, fun j u hu => hc _ _ ?_⟩
  have hj : j < E.n := by rw [← E.len s]; exact (List.getElem?_eq_some_iff.1 hu).1
  rw [E.dv_get l k j s hs hj, hu]
theorem ET.dv_set {l : List α} {k : Nat} (hk : k < l.length) (s : α) (j : Nat) : (E.dv (l.set k s))[j]? = if k * E.n ≤ j ∧ j < k * E.n + E.n then (E.cells s)[j - k * E.n]? else (E.dv l)[j]? := by
  have hp := E.pos
  have hlen : (l.set k s).length = l.length := List.length_set
  by_cases hj : j < l.length * E.n
  · have hq : j / E.n < l.length := by rw [Nat.div_lt_iff_lt_mul hp]; exact hj
    have hm := Nat.mod_lt j hp
    have e : j / E.n * E.n + j % E.n = j := by rw [Nat.mul_comm]; exact Nat.div_add_mod j E.n
    by_cases h : j / E.n = k
    · have h1 : (l.set k s)[j / E.n]? = some s := by rw [h, List.getElem?_set_self hk]
      have h2 := E.dv_get (l.set k s) (j / E.n) (j % E.n) s h1 hm
      rw [e] at h2
      rw [h] at e
      rw [if_pos (by omega), h2]
      congr 1
      omega
    · have h1 : (l.set k s)[j / E.n]? = l[j / E.n]? := by rw [List.getElem?_set_ne (fun h' => h h'.symm)]
      obtain ⟨y, hy⟩ : ∃ y, l[j / E.n]? = some y := ⟨_, List.getElem?_eq_getElem hq⟩
      have h2 := E.dv_get (l.set k s) (j / E.n) (j % E.n) y (h1.trans hy) hm
      have h3 := E.dv_get l (j / E.n) (j % E.n) y hy hm
      rw [e] at h2 h3
      rw [if_neg ?_, h2, h3]
      rintro ⟨h4, h5⟩
      apply h
      have h6 : k * E.n < (j / E.n + 1) * E.n := by rw [Nat.add_mul]; omega
      have h7 : j / E.n * E.n < (k + 1) * E.n := by rw [Nat.add_mul]; omega
      have h8 := Nat.lt_of_mul_lt_mul_right h6
      have h9 := Nat.lt_of_mul_lt_mul_right h7
      omega
  · have h1 : (k + 1) * E.n ≤ l.length * E.n := Nat.mul_le_mul_right _ (by omega)
    rw [Nat.add_mul] at h1
    rw [if_neg (by omega), List.getElem?_eq_none (by rw [E.dv_len, hlen]; omega), List.getElem?_eq_none (by rw [E.dv_len]; omega)]
theorem ET.Row.put {g : Nat} (h : E.Row w g l) {k : Nat} (hk : k < l.length) (s : α) : E.Row (w.setCells g (k * E.n) (E.cells s)) g (l.set k s) := by
  have hsz : ∀ (vs : List Value) (o : Nat) (w : World), (w.setCells g o vs).heap.size = w.heap.size := by
    intro vs
    induction vs with
    | nil => intro o w; rfl
    | cons v vs ih => intro o w; rw [World.setCells, ih]; simp
  have hk1 : (k + 1) * E.n ≤ l.length * E.n := Nat.mul_le_mul_right _ (by omega)
  rw [Nat.add_mul] at hk1
  have hcell : ∀ j, j < l.length * E.n → ∃ u, (E.dv l)[j]? = some u ∧ w.cell? ⟨g, j, none⟩ = some u := fun j hj => by
    have hj' : j < (E.dv l).length := by rw [E.dv_len]; exact hj
    exact ⟨_, List.getElem?_eq_getElem hj', (h.2 j _ (List.getElem?_eq_getElem hj')).1⟩
  refine ⟨by rw [hsz]; exact h.1, fun j u hj => ?_⟩
  have hjl : j < (E.dv (l.set k s)).length := (List.getElem?_eq_some_iff.1 hj).1
  rw [E.dv_len, List.length_set] at hjl
  obtain ⟨u0, hu0, hc0⟩ := hcell j hjl
  refine ⟨?_, by rw [World.frozen?_setCells]; exact (h.2 j u0 hu0).2⟩
  rw [E.dv_set hk] at hj
  by_cases hin : k * E.n ≤ j ∧ j < k * E.n + E.n
  · rw [if_pos hin] at hj
    have hjs : j - k * E.n < (E.cells s).length := (List.getElem?_eq_some_iff.1 hj).1
    have := World.cell?_setCells_in g (E.cells s) (k * E.n) w (fun i hi => by
      obtain ⟨u1, _, h1⟩ := hcell (k * E.n + i) (by rw [E.len] at hi; omega)
      rw [h1]; rfl) (j - k * E.n) hjs
    rw [show k * E.n + (j - k * E.n) = j by omega] at this
    rw [this, ← hj, List.getElem?_eq_getElem hjs]
  · rw [if_neg hin] at hj
    rw [World.cell?_setCells_out g (E.cells s) (k * E.n) w _ (fun _ _ => ?_)]
    · rw [hc0]; rw [hu0] at hj; exact hj
    · rw [E.len]
      show j < k * E.n ∨ k * E.n + E.n ≤ j
      omega
end
end Go.Proofs.Ythnbnhlfiehihaa
/- What is built of parts: slices of one element, structs. -/
namespace Go.Proofs.Ythnbnhlfiehihaa
open Go.RowKit

theorem fold_set (off : Nat) : ∀ (us : List Value) (k : Nat) (pre old rest : List Value), old.length = us.length → pre.length = off + k →
    (us.zipIdx k).foldl (fun (cs : Array Value) (p : Value × Nat) => cs.setIfInBounds (off + p.2) p.1) (pre ++ old ++ rest).toArray = (pre ++ us ++ rest).toArray
  | [], k, pre, old, rest, hl, hp => by
    have : old = [] := List.eq_nil_of_length_eq_zero (by simpa using hl)
    subst this
    rfl
  | u :: us, k, pre, [], rest, hl, hp => by simp at hl
  | u :: us, k, pre, o :: old, rest, hl, hp => by
    rw [List.zipIdx_cons, List.foldl_cons]
    have e : (pre ++ o :: old ++ rest).toArray.setIfInBounds (off + k) u = ((pre ++ [u]) ++ old ++ rest).toArray := by
      rw [List.setIfInBounds_toArray, ← hp]
      simp
    simp only [e]
    rw [fold_set off us (k + 1) (pre ++ [u]) old rest (by simpa using hl) (by simp; omega)]
    simp
def numbered : Nat → List (List Value) → List (Nat × Value)
  | _, [] => []
  | k, u :: us => (k, .agg u.toArray) :: numbered (k + 1) us
theorem fill_many (n : Nat) : ∀ (us : List (List Value)) (k : Nat) (pre rest : List Value), pre.length = k * n → rest.length = us.length * n → (∀ u ∈ us, u.length = n) →
    Instr.fill (fun i => some (i * n, n)) (pre ++ rest).toArray (numbered k us) = some (pre ++ us.flatten).toArray
  | [], k, pre, rest, hp, hr, hu => by
    have : rest = [] := List.eq_nil_of_length_eq_zero (by simpa using hr)
    subst this
    rfl
  | u :: us, k, pre, rest, hp, hr, hu => by
    have hun := hu u (by simp)
    have hrl : n ≤ rest.length := by rw [hr, List.length_cons, Nat.add_mul]; omega
    rw [numbered, Instr.fill]
    simp only
    have hc : (Value.agg u.toArray).cells = u.toArray := rfl
    rw [hc, if_neg (by simp [hun]; omega)]
    have e : Array.foldl (fun (cs : Array Value) (x : Value × Nat) => match x with | (c, j) => cs.setIfInBounds (k * n + j) c) (pre ++ rest).toArray u.toArray.zipIdx = ((pre ++ u) ++ rest.drop n).toArray := by
      have h := fold_set (k * n) u 0 pre (rest.take n) (rest.drop n) (by rw [List.length_take]; omega) (by omega)
      rw [List.append_assoc, List.take_append_drop] at h
      rw [← Array.foldl_toList, Array.toList_zipIdx]
      exact h
    rw [e, fill_many n us (k + 1) (pre ++ u) (rest.drop n) (by rw [List.length_append, hp, hun, Nat.add_mul]; omega) (by rw [List.length_drop, hr, List.length_cons, Nat.add_mul]; omega) (fun v hv => hu v (by simp [hv]))]
    simp
/-- a part laid where it belongs -/
theorem fill_part (place : Nat → Option (Nat × Nat)) (i : Nat) (v : Value) (us pre old rest : List Value) (parts : List (Nat × Value)) (hp : place i = some (pre.length, us.length)) (hv : v.cells = us.toArray) (ho : old.length = us.length) :
    Instr.fill place (pre ++ old ++ rest).toArray ((i, v) :: parts) = Instr.fill place (pre ++ us ++ rest).toArray parts := by
  rw [Instr.fill, hp]
  simp only
  rw [hv, if_neg (by simp; omega)]
  congr 1
  have h := fold_set pre.length us 0 pre old rest ho rfl
  rw [← Array.foldl_toList, Array.toList_zipIdx]
  exact h
section
variable {P : Program} {t e : TypeId} {α : Type}
theorem ET.run_bs1 (E : ET P t e α) (w : World) (x : α) {v : Value} (hv : v.cells = (E.cells x).toArray) :
    (Instr.buildSlice t 1 #[(0, v)]).run P w = .ok (.slice (some ⟨w.heap.size, 0, none⟩) 1 1) (w.alloc (.cells (E.cells x).toArray e)) := by
  obtain ⟨i, hi, hz, hz1, hz2⟩ := info_parts E.info
  have hp := E.pos
  have hs := E.small
  by_cases hbig : 1 * i.size > 2 ^ 24
  · exact absurd hbig (by rw [hz1]; have := E.ncap; omega)
  refine run_buildSlice w t e 1 _ _ i E.z E.ty hi hz hbig (by rw [hz1]; omega) ?_
  obtain ⟨Z, hZ⟩ : ∃ Z : List Value, Z.toArray = Array.map (fun (k : Nat) => E.z.cells[k % E.z.cells.size]!) (Array.range (1 * i.size)) := ⟨(Array.map (fun (k : Nat) => E.z.cells[k % E.z.cells.size]!) (Array.range (1 * i.size))).toList, Array.toArray_toList⟩
  have hZl : Z.length = i.size := by
    have := congrArg Array.size hZ
    simpa using this
  rw [← hZ]
  have h := fill_part (fun k => some (k * i.size, i.size)) 0 v (E.cells x) [] Z [] [] (by simp [hz1, E.len]) hv (by rw [hZl, hz1, E.len])
  simp only [List.nil_append, List.append_nil] at h
  rw [h]
  rfl
variable {o : Oper} {a : Act} {w : World} {x : Operand}
theorem ET.ex_bs1 (E : ET P t e α) (ho : o.op = .buildSlice t 1 #[(0, x)]) (c : α) (hx : (a.eval x).cells = (E.cells c).toArray) :
    (execOp a.eval o).run P w = .ok (.value (.slice (some ⟨w.heap.size, 0, none⟩) 1 1)) (w.alloc (.cells (E.cells c).toArray e)) := by
  have := E.run_bs1 w c hx
  simp [execOp, ho, this]
theorem ET.own1 (E : ET P t e α) (w : World) (c : α) : E.Own (w.alloc (.cells (E.cells c).toArray e)) w.heap.size (.slice (some ⟨w.heap.size, 0, none⟩) 1 1) [c] :=
  ET.Own.lit w [c] (by simp [maxLen]) (by simp [ET.dv])
theorem ex_bldT {parts : Array (Nat × Operand)} {cs : List Value} (ho : o.op = .build t parts) {ps : List (Nat × Value)} (hps : (parts.map fun (i, x) => (i, a.eval x)).toList = ps) (hb : P.built t ps = some cs.toArray) : (execOp a.eval o).run P w = .ok (.value (.agg cs.toArray)) w := by
  subst hps
  have := run_build w t _ _ hb
  simp [execOp, ho, this]
end
end Go.Proofs.Ythnbnhlfiehihaa
/- Rows of elements: slices of slices (s[:j:j], s[j:]), stores of an element. -/
namespace Go.Proofs.Ythnbnhlfiehihaa
open Go.RowKit

theorem addr_zero (a : Addr) : a.add 0 = a := by
  unfold Addr.add
  split
  · rfl
  · rename_i h; exact absurd rfl h
section
variable {P : Program} {t e : TypeId} {α : Type}
theorem ET.size (E : ET P t e α) : ∃ i, P.info? e = some i ∧ i.size = E.n := by
  obtain ⟨i, hi, hz, hz1, hz2⟩ := info_parts E.info
  exact ⟨i, hi, hz1⟩
theorem ET.sizeOf (E : ET P t e α) (w : World) : (sizeOf e).run P w = .ok E.n w := by
  obtain ⟨i, hi, hs⟩ := E.size
  simp [Go.sizeOf, typeInfo, hi, hs]
/-- s[:j:j] -/
theorem ET.sl_pre (E : ET P t e α) (A : Option Addr) (m c j : Nat) (hj : j ≤ c) (w : World) :
    (Instr.sliceAt t (.slice A m c) none (some (.int .i64 (j : Int))) (some (.int .i64 (j : Int)))).run P w = .ok (.slice A j j) w := by
  obtain ⟨i, hi, hs⟩ := E.size
  have e : A.map (fun x => x.add 0) = A := by cases A <;> simp [addr_zero]
  simp [Instr.sliceAt, Instr.slice, run_underlying E.ty, Instr.sliceBounds, Instr.sliceBound, asIntOf, Go.sizeOf, typeInfo, hi]
  rw [if_pos hj, e]
  simp
/-- s[:j] -/
theorem ET.sl_pre1 (E : ET P t e α) (A : Option Addr) (m c j : Nat) (hj : j ≤ c) (w : World) :
    (Instr.sliceAt t (.slice A m c) none (some (.int .i64 (j : Int))) none).run P w = .ok (.slice A j c) w := by
  obtain ⟨i, hi, hs⟩ := E.size
  have e : A.map (fun x => x.add 0) = A := by cases A <;> simp [addr_zero]
  simp [Instr.sliceAt, Instr.slice, run_underlying E.ty, Instr.sliceBounds, Instr.sliceBound, asIntOf, Go.sizeOf, typeInfo, hi]
  rw [if_pos hj, e]
  simp
/-- s[j:] -/
theorem ET.sl_post (E : ET P t e α) (A : Option Addr) (m c j : Nat) (hj : j ≤ m) (hc : m ≤ c) :
    ∃ A2, (∀ w, (Instr.sliceAt t (.slice A m c) (some (.int .i64 (j : Int))) none none).run P w = .ok (.slice A2 (m - j) (c - j)) w) ∧ ∀ (w : World) (B : Nat) (o : List α), o.length = m → Sl w B A (E.dv o) → Sl w B A2 (E.dv (o.drop j)) := by
  obtain ⟨i, hi, hs⟩ := E.size
  refine ⟨if c = j then A else A.map (fun x => x.add (j * i.size)), fun w => ?_, fun w B o ho hS => ?_⟩
  · simp [Instr.sliceAt, Instr.slice, run_underlying E.ty, Instr.sliceBounds, Instr.sliceBound, asIntOf, Go.sizeOf, typeInfo, hi]
    intro h; omega
  · have hmul : j * E.n ≤ o.length * E.n := Nat.mul_le_mul_right _ (by omega)
    have hmul2 : o.length * E.n ≤ c * E.n := Nat.mul_le_mul_right _ (by omega)
    have h := hS.cut (j * E.n) (c * E.n) (by rw [E.dv_len]; omega)
    rw [E.dv_drop] at h
    rw [hs]
    by_cases e : c = j
    · rw [if_pos e]; rw [if_pos (by rw [e])] at h; exact h
    · have hne : ¬ c * E.n = j * E.n := fun h' => e (Nat.eq_of_mul_eq_mul_right E.pos h')
      rw [if_neg e]; rw [if_neg hne] at h; exact h
variable {a : Act} {o : Oper} {x y z : Operand}
theorem ET.exec_pre (E : ET P t e α) (ho : o.op = .slice t x none (some y) (some z)) {A : Option Addr} {m c j : Nat} (hx : a.eval x = .slice A m c) (hy : a.eval y = .int .i64 (j : Int)) (hz : a.eval z = .int .i64 (j : Int)) (hj : j ≤ c) (w : World) :
    (execOp a.eval o).run P w = .ok (.value (.slice A j j)) w := by
  have h := E.sl_pre A m c j hj w
  simp [execOp, ho, hx, hy, hz, h]
theorem ET.exec_post (_E : ET P t e α) (ho : o.op = .slice t x (some y) none none) {A A2 : Option Addr} {m c j : Nat} (hx : a.eval x = .slice A m c) (hy : a.eval y = .int .i64 (j : Int))
    (h : ∀ w, (Instr.sliceAt t (.slice A m c) (some (.int .i64 (j : Int))) none none).run P w = .ok (.slice A2 (m - j) (c - j)) w) (w : World) :
    (execOp a.eval o).run P w = .ok (.value (.slice A2 (m - j) (c - j))) w := by
  simp [execOp, ho, hx, hy, h]
theorem run_storeO (w : World) (t : TypeId) {n g o : Nat} {us : List Value} (hsz : ∀ w, (sizeOf t).run P w = .ok n w) (hc : ∀ j, j < us.length → (w.cell? ⟨g, o + j, none⟩).isSome = true) (hf : ∀ j, j < us.length → w.frozen? ⟨g, o + j, none⟩ = false) (hn : us.length = n) (h1 : ∀ u ∈ us, u.oneCell' = true) :
    (Instr.storeAt t (.pointer (some ⟨g, o, none⟩)) (.agg us.toArray)).run P w = .ok () (w.setCells g o us) := by
  have hst := run_storeCells_cells (P := P) g o us 0 w (fun j hj => by rw [Nat.add_zero]; exact hc j hj) (fun j hj => by rw [Nat.add_zero]; exact hf j hj) h1
  simp only [Nat.add_zero] at hst
  subst hn
  simp [Instr.storeAt, Instr.sureAddr, storeVar, hsz, Value.cells, hst]
/-- an element is laid into a row -/
theorem ET.ex_set (E : ET P t e α) {w : World} {g k : Nat} {l : List α} (ho : o.op = .store e x y) (h : E.Row w g l) (hk : k < l.length) (s : α) (hx : a.eval x = .pointer (some ⟨g, k * E.n, none⟩)) (hy : a.eval y = .agg (E.cells s).toArray) :
    (execOp a.eval o).run P w = .ok .skip (w.setCells g (k * E.n) (E.cells s)) := by
  have hk1 : (k + 1) * E.n ≤ l.length * E.n := Nat.mul_le_mul_right _ (by omega)
  rw [Nat.add_mul] at hk1
  have hcell : ∀ j, j < (E.cells s).length → ∃ u, w.cell? ⟨g, k * E.n + j, none⟩ = some u ∧ w.frozen? ⟨g, k * E.n + j, none⟩ = false := fun j hj => by
    rw [E.len] at hj
    have hj' : k * E.n + j < (E.dv l).length := by rw [E.dv_len]; omega
    exact ⟨_, h.2 _ _ (List.getElem?_eq_getElem hj')⟩
  have hst := run_storeO (P := P) w e (n := E.n) (g := g) (o := k * E.n) (us := E.cells s) E.sizeOf (fun j hj => by obtain ⟨u, hu, _⟩ := hcell j hj; rw [hu]; rfl) (fun j hj => by obtain ⟨u, _, hu⟩ := hcell j hj; exact hu) (E.len s) (E.one s)
  simp [execOp, ho, hx, hy, hst]
end
theorem setCells_size : ∀ (us : List Value) (o : Nat) (w : World) (g : Nat), (w.setCells g o us).heap.size = w.heap.size
  | [], _, _, _ => rfl
  | u :: us, o, w, g => by simp [World.setCells, setCells_size us]
theorem At.setCells_other : ∀ (us : List Value) (o : Nat) {w : World} {g g' : Nat} {vs : List Value}, At w g vs → g' ≠ g → At (w.setCells g' o us) g vs
  | [], _, _, _, _, _, h, _ => h
  | u :: us, o, _, _, _, _, h, hne => At.setCells_other us (o + 1) (h.set_other o u hne) hne
end Go.Proofs.Ythnbnhlfiehihaa
/- Disks: the document's, in memory. -/
namespace Go.Proofs.Ythnbnhlfiehihaa
open Go.RowKit Go.Maps
set_option maxRecDepth 20000

abbrev NF := Nm × FV
def NF.cells (q : NF) : List Value := [str q.1, .slice (adr q.2.g) q.2.f.b.length q.2.c, .int .i64 (q.2.f.s : Int)]
theorem fileinfo : (Try.prog.info? 79).map (fun i => (i.zero, i.size, i.bytes)) = some (some (.agg #[.string ⟨#[]⟩, .slice none 0 0, .int .i64 0]), 3, 48) := by kernel_rfl
def z0NF : NF := ([], ⟨⟨[], 0⟩, none, 0⟩)
def EK : ET Try.prog 63 79 NF := {
  n := 3
  bytes := 48
  cells := NF.cells
  zero := z0NF
  z := .agg #[.string ⟨#[]⟩, .slice none 0 0, .int .i64 0]
  ty := Try.underlying63
  info := fileinfo
  zc := rfl
  pos := by omega
  len := fun _ => rfl
  one := fun x u hu => by
    simp only [NF.cells, List.mem_cons, List.not_mem_nil, or_false] at hu
    rcases hu with rfl | rfl | rfl <;> rfl
  small := by omega }
/-- the document's disk: its box, its row -/
def DD (W : World) (d : Nat) (F H : Nat → Prop) (s : DK) : Prop :=
  ∃ (A : Option Addr) (c : Nat) (G : List NF), At W d [.int .i64 (s.room : Int), .slice A G.length c, .int .i64 s.calls, .int .i64 s.arm, .int .i64 s.keep, .bool s.off] ∧
    (A = none ∧ G = [] ∧ c = 0 ∨ ∃ g, A = some ⟨g, 0, none⟩ ∧ F g ∧ g ≠ d ∧ EK.Row W g G) ∧ G.length ≤ c ∧ c ≤ maxLen ∧ mapN FV.f G = s.R ∧ (∀ q ∈ G, FVat W F H q.2) ∧ F d ∧ (∀ k, F k → H k) ∧ ∀ k, H k → k < W.heap.size
section
variable {W W' : World} {F H H' S : Nat → Prop} {d : Nat} {s s' : DK}
theorem DD.grew (h : DD W d F H s) (hg : Grew S W W') (hs : ∀ k, H k → ¬ S k) : DD W' d F H s := by
  obtain ⟨A, c, G, h1, h2, h3, h4, h5, h6, h7, h8, h9⟩ := h
  refine ⟨A, c, G, h1.grew hg (hs _ (h8 _ h7)), ?_, h3, h4, h5, fun q hq => (h6 q hq).grew hg (fun k hk _ => hs k hk), h7, h8, fun k hk => Nat.lt_of_lt_of_le (h9 k hk) hg.size⟩
  rcases h2 with h2 | ⟨g, e, hF, hne, hr⟩
  · exact .inl h2
  · exact .inr ⟨g, e, hF, hne, At.grew hr hg (hs g (h8 _ hF))⟩
theorem DD.below (h : DD W d F H s) (hb : Below W.heap.size W W') : DD W' d F H s := h.grew (S := fun _ => False) (Grew.below hb) (fun _ _ => id)
theorem DD.drew (h : DD W d F H s) : DD W.drew d F H s := h
theorem DD.more (h : DD W d F H s) (hH : ∀ k, H k → H' k) (hlt : ∀ k, H' k → k < W.heap.size) : DD W d F H' s := by
  obtain ⟨A, c, G, h1, h2, h3, h4, h5, h6, h7, h8, h9⟩ := h
  exact ⟨A, c, G, h1, h2, h3, h4, h5, fun q hq => (h6 q hq).mono hH (fun _ _ => id), h7, fun k hk => hH k (h8 k hk), hlt⟩
theorem DD.lt (h : DD W d F H s) : ∀ k, H k → k < W.heap.size := by obtain ⟨A, c, G, h1, h2, h3, h4, h5, h6, h7, h8, h9⟩ := h; exact h9
/-- an element's cells -/
theorem fileAt {l : List NF} {w : World} {A : Option Addr} (h : Sl w w.heap.size A (EK.dv l)) {k : Nat} {q : NF} (hx : l[k]? = some q) : ∃ g o, A = some ⟨g, o, none⟩ ∧ g < w.heap.size ∧
    w.cell? ⟨g, o + k * 3, none⟩ = some (str q.1) ∧ w.cell? ⟨g, o + k * 3 + 1, none⟩ = some (.slice (adr q.2.g) q.2.f.b.length q.2.c) ∧ w.cell? ⟨g, o + k * 3 + 2, none⟩ = some (.int .i64 (q.2.f.s : Int)) := by
  obtain ⟨g, o, h1, h2, _, h4⟩ := EK.cell_at h hx
  have h5 : ∀ (j : Nat) (u : Value), (NF.cells q)[j]? = some u → w.cell? ⟨g, o + k * 3 + j, none⟩ = some u := fun j u hu => by
    have := h4 j u hu
    rw [← Nat.add_assoc] at this
    exact this
  exact ⟨g, o, h1, h2, h5 0 _ rfl, h5 1 _ rfl, h5 2 _ rfl⟩
end
end Go.Proofs.Ythnbnhlfiehihaa
/- Disks side by side: the program's and the document's. -/
namespace Go.Proofs.Ythnbnhlfiehihaa
open Go.RowKit

/-- a disk: the document's or the program's, its box, its state; or a block that stands -/
structure Ob where
  doc : Bool
  p : Nat
  s : DK
  bx : Option (List Value) := none
def BoxAt (W : World) (p : Nat) (F H : Nat → Prop) (vs : List Value) : Prop := At W p vs ∧ F p ∧ (∀ k, F k → H k) ∧ ∀ k, H k → k < W.heap.size
def Ob.at (o : Ob) (W : World) (F H : Nat → Prop) : Prop := match o.bx with
  | some vs => BoxAt W o.p F H vs
  | none => if o.doc then DD W o.p F H o.s else PD W o.p F H o.s
theorem Ob.at.grew {o : Ob} {W W' : World} {F H S : Nat → Prop} (h : o.at W F H) (hg : Grew S W W') (hs : ∀ k, H k → ¬ S k) : o.at W' F H := by
  obtain ⟨doc, p, s, bx⟩ := o
  cases bx with
  | some vs =>
    obtain ⟨h1, h2, h3, h4⟩ : BoxAt W p F H vs := h
    exact ⟨h1.grew hg (hs _ (h3 _ h2)), h2, h3, fun k hk => Nat.lt_of_lt_of_le (h4 k hk) hg.size⟩
  | none =>
    cases doc with
    | true => exact DD.grew (h : DD W p F H s) hg hs
    | false => exact PD.grew (h : PD W p F H s) hg hs
theorem Ob.at.lt {o : Ob} {W : World} {F H : Nat → Prop} (h : o.at W F H) : ∀ k, H k → k < W.heap.size := by
  obtain ⟨doc, p, s, bx⟩ := o
  cases bx with
  | some vs =>
    obtain ⟨h1, h2, h3, h4⟩ : BoxAt W p F H vs := h
    exact h4
  | none =>
    cases doc with
    | true => exact DD.lt (h : DD W p F H s)
    | false => exact PD.lt (h : PD W p F H s)
theorem Ob.at.sub {o : Ob} {W : World} {F H : Nat → Prop} (h : o.at W F H) : ∀ k, F k → H k := by
  obtain ⟨doc, p, s, bx⟩ := o
  cases bx with
  | some vs =>
    obtain ⟨h1, h2, h3, h4⟩ : BoxAt W p F H vs := h
    exact h3
  | none =>
    cases doc with
    | true =>
      obtain ⟨A, c, G, h1, h2, h3, h4, h5, h6, h7, h8, h9⟩ : DD W p F H s := h
      exact h8
    | false =>
      obtain ⟨mb, G, h1, h2, h3, h4, h5, h6, h7, h8⟩ : PD W p F H s := h
      exact h7
/-- what a call on one disk does to memory -/
structure Moved (F H F' H' : Nat → Prop) (W W' : World) : Prop where
  f : ∀ i, F' i → F i ∨ W.heap.size ≤ i
  h : ∀ i, H' i → H i ∨ W.heap.size ≤ i
  g : Grew F W W'
theorem Moved.refl (F H : Nat → Prop) (W : World) : Moved F H F H W W := ⟨fun _ => .inl, fun _ => .inl, Grew.refl _ _⟩
theorem Moved.trans {F H F' H' F'' H'' : Nat → Prop} {a b c : World} (h : Moved F H F' H' a b) (k : Moved F' H' F'' H'' b c) : Moved F H F'' H'' a c :=
  ⟨fun i hi => (k.f i hi).elim (h.f i) (fun h2 => .inr (Nat.le_trans h.g.size h2)), fun i hi => (k.h i hi).elim (h.h i) (fun h2 => .inr (Nat.le_trans h.g.size h2)), h.g.trans k.g (fun i hi hF => (h.f i hF).elim id (fun h2 => absurd hi (Nat.not_lt.2 h2)))⟩
theorem Moved.below {F H : Nat → Prop} {W W' : World} (h : Below W.heap.size W W') : Moved F H F H W W' := ⟨fun _ => .inl, fun _ => .inl, Grew.below h⟩
/-- disks side by side, none of which may turn what another holds -/
def Pool (w0 : World) (L : List Ob) (W : World) : Prop :=
  ∃ T : List ((Nat → Prop) × (Nat → Prop)), T.length = L.length ∧ (∀ (i : Nat) (o : Ob) (t : (Nat → Prop) × (Nat → Prop)), L[i]? = some o → T[i]? = some t → o.at W t.1 t.2 ∧ ∀ k, t.1 k → w0.heap.size ≤ k) ∧
    (∀ (i j : Nat) (t u : (Nat → Prop) × (Nat → Prop)), i ≠ j → T[i]? = some t → T[j]? = some u → ∀ k, t.1 k → ¬ u.2 k) ∧ Below w0.heap.size w0 W
section
variable {w0 W W' : World} {L : List Ob} {i : Nat} {o : Ob}
theorem Pool.nil (h : Below w0.heap.size w0 W) : Pool w0 [] W := ⟨[], rfl, fun i o t h => by simp at h, fun i j t u _ h => by simp at h, h⟩
theorem Pool.wb (h : Pool w0 L W) : Below w0.heap.size w0 W := by obtain ⟨T, h1, h2, h3, h4⟩ := h; exact h4
theorem Pool.below (h : Pool w0 L W) (hb : Below W.heap.size W W') : Pool w0 L W' := by
  obtain ⟨T, h1, h2, h3, h4⟩ := h
  exact ⟨T, h1, fun i o t ho ht => ⟨(h2 i o t ho ht).1.grew (S := fun _ => False) (Grew.below hb) (fun _ _ => id), (h2 i o t ho ht).2⟩, h3, h4.trans (hb.mono h4.size)⟩
/-- one of them, and what holds after it is turned; what lay before all of them is none of its own -/
theorem Pool.use (h : Pool w0 L W) (hi : L[i]? = some o) : ∃ F H : Nat → Prop, o.at W F H ∧ (∀ k, F k → w0.heap.size ≤ k) ∧
    ∀ (W' : World) (F' H' : Nat → Prop) (s' : DK), ({ o with s := s' } : Ob).at W' F' H' → Moved F H F' H' W W' → Pool w0 (L.set i { o with s := s' }) W' := by
  obtain ⟨T, h1, h2, h3, h4⟩ := h
  have hil := (List.getElem?_eq_some_iff.1 hi).1
  obtain ⟨t, ht⟩ : ∃ t, T[i]? = some t := ⟨_, List.getElem?_eq_getElem (by rw [h1]; exact hil)⟩
  have hiT := (List.getElem?_eq_some_iff.1 ht).1
  obtain ⟨ha, hb⟩ := h2 i o t hi ht
  refine ⟨t.1, t.2, ha, hb, fun W' F' H' s' ho hm => ⟨T.set i (F', H'), by simp [h1], fun j o' t' ho' ht' => ?_, fun j k t' u hjk hj hk m hm1 hm2 => ?_, ?_⟩⟩
  · by_cases e : i = j
    · subst e
      rw [List.getElem?_set_self hil] at ho'
      rw [List.getElem?_set_self hiT] at ht'
      have ho' := Option.some.inj ho'
      have ht' := Option.some.inj ht'
      subst ho'; subst ht'
      exact ⟨ho, fun k hk => (hm.f k hk).elim (hb k) (fun h => Nat.le_trans h4.size h)⟩
    · rw [List.getElem?_set_ne e] at ho' ht'
      obtain ⟨k1, k2⟩ := h2 j o' t' ho' ht'
      exact ⟨k1.grew hm.g (fun m hm1 hm2 => h3 i j t t' e ht ht' m hm2 hm1), k2⟩
  · by_cases e : i = j
    · subst e
      rw [List.getElem?_set_self hiT] at hj
      have hj := Option.some.inj hj
      subst hj
      rw [List.getElem?_set_ne hjk] at hk
      obtain ⟨o', ho'⟩ : ∃ o', L[k]? = some o' := ⟨_, List.getElem?_eq_getElem (by rw [← h1]; exact (List.getElem?_eq_some_iff.1 hk).1)⟩
      have hlt := (h2 k o' u ho' hk).1.lt m hm2
      rcases hm.f m hm1 with h | h
      · exact h3 i k t u hjk ht hk m h hm2
      · omega
    · rw [List.getElem?_set_ne e] at hj
      by_cases e2 : i = k
      · subst e2
        rw [List.getElem?_set_self hiT] at hk
        have hk := Option.some.inj hk
        subst hk
        obtain ⟨o', ho'⟩ : ∃ o', L[j]? = some o' := ⟨_, List.getElem?_eq_getElem (by rw [← h1]; exact (List.getElem?_eq_some_iff.1 hj).1)⟩
        rcases hm.h m hm2 with h | h
        · exact h3 j i t' t (fun h => e h.symm) hj ht m hm1 h
        · have := (h2 j o' t' ho' hj).1.lt m ((h2 j o' t' ho' hj).1.sub m hm1)
          omega
      · rw [List.getElem?_set_ne e2] at hk
        exact h3 j k t' u hjk hj hk m hm1 hm2
  · exact hm.g.belowB h4 (Nat.le_refl _) (fun k hk => hb k hk)
theorem addP {T : List ((Nat → Prop) × (Nat → Prop))} (h1 : T.length = L.length) (h2 : ∀ (i : Nat) (o : Ob) (t : (Nat → Prop) × (Nat → Prop)), L[i]? = some o → T[i]? = some t → o.at W t.1 t.2 ∧ ∀ k, t.1 k → w0.heap.size ≤ k)
    (h3 : ∀ (i j : Nat) (t u : (Nat → Prop) × (Nat → Prop)), i ≠ j → T[i]? = some t → T[j]? = some u → ∀ k, t.1 k → ¬ u.2 k) (h4 : Below w0.heap.size w0 W) (hb : Below W.heap.size W W') {F'' H'' : Nat → Prop} (ho : o.at W' F'' H'') (hF : ∀ k, F'' k → W.heap.size ≤ k)
    (hN : ∀ (i : Nat) (t : (Nat → Prop) × (Nat → Prop)), T[i]? = some t → ∀ k, t.1 k → ¬ H'' k) : Pool w0 (L ++ [o]) W' := by
  have key : ∀ {α : Type} (X : List α) (z : α) (j : Nat) (y : α), (X ++ [z])[j]? = some y → (j < X.length ∧ X[j]? = some y) ∨ (j = X.length ∧ y = z) := fun X z j y hj => by
    rcases Nat.lt_trichotomy j X.length with h | h | h
    · rw [List.getElem?_append_left h] at hj; exact .inl ⟨h, hj⟩
    · subst h
      rw [List.getElem?_append_right (Nat.le_refl _), Nat.sub_self] at hj
      exact .inr ⟨rfl, (Option.some.inj hj).symm⟩
    · rw [List.getElem?_eq_none (by simp; omega)] at hj; cases hj
  refine ⟨T ++ [(F'', H'')], by simp [h1], fun j o' t' ho' ht' => ?_, fun j k t' u hjk hj hk m hm1 hm2 => ?_, h4.trans (hb.mono h4.size)⟩
  · rcases key _ _ _ _ ho' with ⟨a1, a2⟩ | ⟨a1, a2⟩
    · rcases key _ _ _ _ ht' with ⟨b1, b2⟩ | ⟨b1, b2⟩
      · exact ⟨(h2 j o' t' a2 b2).1.grew (S := fun _ => False) (Grew.below hb) (fun _ _ => id), (h2 j o' t' a2 b2).2⟩
      · omega
    · rcases key _ _ _ _ ht' with ⟨b1, b2⟩ | ⟨b1, b2⟩
      · omega
      · subst a2; subst b2
        exact ⟨ho, fun k hk => Nat.le_trans h4.size (hF k hk)⟩
  · rcases key _ _ _ _ hj with ⟨a1, a2⟩ | ⟨a1, a2⟩
    · rcases key _ _ _ _ hk with ⟨b1, b2⟩ | ⟨b1, b2⟩
      · exact h3 j k t' u hjk a2 b2 m hm1 hm2
      · subst b2; exact hN j t' a2 m hm1 hm2
    · rcases key _ _ _ _ hk with ⟨b1, b2⟩ | ⟨b1, b2⟩
      · subst a2
        obtain ⟨o', ho'⟩ : ∃ o', L[k]? = some o' := ⟨_, List.getElem?_eq_getElem (by rw [← h1]; exact b1)⟩
        have := (h2 k o' u ho' b2).1.lt m hm2
        have := hF m hm1
        omega
      · omega
/-- a copy of one of them -/
theorem Pool.copy (h : Pool w0 L W) (hi : L[i]? = some o) : ∃ F H : Nat → Prop, o.at W F H ∧ (∀ k, F k → w0.heap.size ≤ k) ∧
    ∀ (W' : World) (F'' H'' : Nat → Prop) (o'' : Ob), o''.at W' F'' H'' → Below W.heap.size W W' → (∀ k, F'' k → W.heap.size ≤ k) → (∀ k, H'' k → (H k ∧ ¬ F k) ∨ W.heap.size ≤ k) → Pool w0 (L ++ [o'']) W' := by
  obtain ⟨T, h1, h2, h3, h4⟩ := h
  have hil := (List.getElem?_eq_some_iff.1 hi).1
  obtain ⟨t, ht⟩ : ∃ t, T[i]? = some t := ⟨_, List.getElem?_eq_getElem (by rw [h1]; exact hil)⟩
  obtain ⟨ha, hb⟩ := h2 i o t hi ht
  refine ⟨t.1, t.2, ha, hb, fun W' F'' H'' o'' ho hbl hF hH => addP h1 h2 h3 h4 hbl ho hF fun j u hj k hk hk2 => ?_⟩
  rcases hH k hk2 with ⟨x1, x2⟩ | x
  · by_cases e : j = i
    · subst e
      rw [ht] at hj
      have := Option.some.inj hj
      subst this
      exact x2 hk
    · exact h3 j i u t e hj ht k hk x1
  · obtain ⟨o', ho'⟩ : ∃ o', L[j]? = some o' := ⟨_, List.getElem?_eq_getElem (by rw [← h1]; exact (List.getElem?_eq_some_iff.1 hj).1)⟩
    have := (h2 j o' u ho' hj).1.lt k ((h2 j o' u ho' hj).1.sub k hk)
    omega
theorem Pool.add (h : Pool w0 L W) (hb : Below W.heap.size W W') {F'' H'' : Nat → Prop} (ho : o.at W' F'' H'') (hF : ∀ k, F'' k → W.heap.size ≤ k) (hH : ∀ k, H'' k → W.heap.size ≤ k) : Pool w0 (L ++ [o]) W' := by
  obtain ⟨T', h1', h2', h3', h4'⟩ := h
  exact addP h1' h2' h3' h4' hb ho hF (fun i t ht k hk hk2 => absurd (hH k hk2) (by
    obtain ⟨o', ho'⟩ : ∃ o', L[i]? = some o' := ⟨_, List.getElem?_eq_getElem (by rw [← h1']; exact (List.getElem?_eq_some_iff.1 ht).1)⟩
    have := (h2' i o' t ho' ht).1.lt k ((h2' i o' t ho' ht).1.sub k hk)
    omega))
theorem Pool.drop (h : Pool w0 (L ++ [o]) W) : Pool w0 L W := by
  obtain ⟨T, h1, h2, h3, h4⟩ := h
  have hl : T.length = L.length + 1 := by rw [h1]; simp
  refine ⟨T.take L.length, by rw [List.length_take]; omega, fun j o' t ho ht => ?_, fun j k t u hjk hj hk => ?_, h4⟩
  · have hlt := (List.getElem?_eq_some_iff.1 ho).1
    rw [List.getElem?_take, if_pos hlt] at ht
    exact h2 j o' t (by rw [List.getElem?_append_left hlt]; exact ho) ht
  · rw [List.getElem?_take] at hj hk
    split at hj
    · split at hk
      · exact h3 j k t u hjk hj hk
      · cases hk
    · cases hj
/-- a block that has just been laid stands beside them -/
theorem Pool.box (h : Pool w0 L W) (t : TypeId) (vs : List Value) : Pool w0 (L ++ [⟨false, W.heap.size, DK.new 0, some vs⟩]) (W.alloc (.cells vs.toArray t)) :=
  h.add (o := ⟨false, W.heap.size, DK.new 0, some vs⟩) ((Below.refl _ W).alloc (Nat.le_refl _) _) (F'' := fun k => k = W.heap.size) (H'' := fun k => k = W.heap.size) ⟨At.new W t vs.toArray, rfl, fun _ => id, fun k hk => by rw [hk, World.size_alloc]; exact Nat.lt_succ_self _⟩ (fun k hk => Nat.le_of_eq hk.symm) (fun k hk => Nat.le_of_eq hk.symm)
theorem Pool.boxAt {s : DK} {p : Nat} {vs : List Value} (h : Pool w0 L W) (hi : L[i]? = some ⟨false, p, s, some vs⟩) : At W p vs := by
  obtain ⟨F, H, h1, _⟩ := h.use hi
  exact (h1 : BoxAt W p F H vs).1
end
end Go.Proofs.Ythnbnhlfiehihaa
