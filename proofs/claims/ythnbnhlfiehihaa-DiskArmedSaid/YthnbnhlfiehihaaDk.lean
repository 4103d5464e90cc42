/- Disks: the program's, in memory. -/
import Derived.Test.YthnbnhlfiehihaaPDk2
import Derived.Test.YthnbnhlfiehihaaMat
import Derived.Test.YthnbnhlfiehihaaAt
import Derived.Test.YthnbnhlfiehihaaRegS
import Derived.Test.YthnbnhlfiehihaaGrew
import Derived.Maps.Keyed
namespace Go.Proofs.Ythnbnhlfiehihaa
open Go.RowKit Go.Maps
set_option maxRecDepth 20000

section
variable {S : Nat → Prop} {w w' : World}
theorem At.grew {g : Nat} {vs : List Value} (h : At w g vs) (hg : Grew S w w') (hn : ¬ S g) : At w' g vs :=
  ⟨Nat.lt_of_lt_of_le h.1 hg.size, fun i v hv => ⟨(hg.cell (p := ⟨g, i, none⟩) h.1 hn).trans (h.2 i v hv).1, (hg.frozen (p := ⟨g, i, none⟩) h.1 hn).trans (h.2 i v hv).2⟩⟩
theorem Sl.grewN {b o B : Nat} {xs : List Value} (h : Sl w B (some ⟨b, o, none⟩) xs) (hg : Grew S w w') (hn : ¬ S b) : Sl w' B (some ⟨b, o, none⟩) xs := by
  rcases h with h | ⟨b', o', e, h1, h2, h3⟩
  · exact .inl h
  · injection e with e
    injection e with e1 e2
    subst e1; subst e2
    exact .inr ⟨b, o, rfl, h1, Nat.lt_of_lt_of_le h2 hg.size, fun j u hu => (hg.cell (p := ⟨b, o + j, none⟩) h2 hn).trans (h3 j u hu)⟩
theorem MapIs.of_block {P : Program} {t k e : TypeId} {α β : Type} {T : MT P t k e α β} {b : Nat} {L : List (α × β)} (h : MapIs T w b L) (hb : w'.heap[b]? = w.heap[b]?) : MapIs T w' b L := by
  obtain ⟨h0, es, ⟨es', clock, hb', h1⟩, h2⟩ := h
  exact ⟨h0, es, ⟨es', clock, hb.trans hb', h1⟩, h2⟩
theorem MapIs.grew {P : Program} {t k e : TypeId} {α β : Type} {T : MT P t k e α β} {b : Nat} {L : List (α × β)} (h : MapIs T w b L) (hg : Grew S w w') (hn : ¬ S b) : MapIs T w' b L := h.of_block (hg.block b h.lt hn)
theorem MapIs.perm {P : Program} {t k e : TypeId} {α β : Type} {T : MT P t k e α β} {b : Nat} {L M : List (α × β)} (h : MapIs T w b L) (hp : L.Perm M) : MapIs T w b M := by
  obtain ⟨h0, es, h1, h2⟩ := h
  refine ⟨fun p hp' => h0 p (hp.mem_iff.2 hp'), es, ?_, h2.trans (hp.map _)⟩
  rw [← hp.length_eq]; exact h1
end

/-- a slice of bytes and a number, as a map's element -/
structure RF where
  g : Option (Nat × Nat)
  l : Nat
  c : Nat
  s : Nat
def adr (g : Option (Nat × Nat)) : Option Addr := g.map fun p => ⟨p.1, p.2, none⟩
theorem adr_inj {a b : Option (Nat × Nat)} (h : adr a = adr b) : a = b := by
  cases a <;> cases b <;> simp_all [adr]
  rename_i p q
  exact Prod.ext h.1 h.2
def RF.v (r : RF) : Value := .agg #[.slice (adr r.g) r.l r.c, .int .i64 (r.s : Int)]
def encN (n : Nat) : DataW Unit := .lit (.int .i64 (n : Int))
def RF.enc (r : RF) : DataW Unit := .agg (encN r.l :: encN r.c :: encN r.s :: (match r.g with | none => [] | some p => [encN p.1, encN p.2]))
theorem encN_inj {a b : Nat} (h : encN a = encN b) : a = b := by
  simp only [encN, DataW.lit.injEq, Lit.int.injEq, true_and] at h
  exact Int.ofNat.inj h
theorem RF.v_inj (a b : RF) (h : a.v = b.v) : a = b := by
  obtain ⟨g, l, c, s⟩ := a
  obtain ⟨g', l', c', s'⟩ := b
  simp only [RF.v, Value.agg.injEq, Array.mk.injEq, List.cons.injEq, Value.slice.injEq, Value.int.injEq, true_and, and_true] at h
  obtain ⟨⟨h1, h2, h3⟩, h4⟩ := h
  have := adr_inj h1
  have h4 := Int.ofNat.inj h4
  subst this; subst h2; subst h3; subst h4
  rfl
theorem RF.enc_inj (a b : RF) (h : a.enc = b.enc) : a = b := by
  obtain ⟨g, l, c, s⟩ := a
  obtain ⟨g', l', c', s'⟩ := b
  simp only [RF.enc, DataW.agg.injEq, List.cons.injEq] at h
  obtain ⟨h1, h2, h3, h4⟩ := h
  have h1 := encN_inj h1
  have h2 := encN_inj h2
  have h3 := encN_inj h3
  subst h1; subst h2; subst h3
  cases g <;> cases g' <;> simp_all
  rename_i p q
  exact Prod.ext (encN_inj h4.1) (encN_inj h4.2)
theorem fileInfo : (Try.prog.info? 59).bind (·.zero) = some (.agg #[.slice none 0 0, .int .i64 0]) := by kernel_rfl
def zeroF : RF := ⟨none, 0, 0, 0⟩
theorem fileZero (w : World) : (zeroValue 59).run Try.prog w = .ok zeroF.v w := by
  have h := fileInfo
  cases hi : Try.prog.info? 59 with
  | none => rw [hi] at h; cases h
  | some i => rw [hi] at h; simp only [Option.bind_some] at h; simp [zeroValue, typeInfo, hi, h, RF.v, zeroF, adr]
theorem key_str (x : Nm) (hx : x.length ≤ maxLen) : keyOf Try.prog 9 (str x) = some (.string x) := by
  simp [keyOf, mapKey, Try.underlying9, str, ByteArray.size, hx]
theorem str_inv (v : Value) (l : Lit) (h : keyOf Try.prog 9 v = some l) : ∃ x : Nm, x.length ≤ maxLen ∧ v = str x := by
  simp only [keyOf, mapKey, Try.underlying9] at h
  cases v with
  | string s =>
    simp only at h
    split at h
    · rename_i hs
      exact ⟨s.data.toList, hs, rfl⟩
    · cases h
  | _ => cases h
noncomputable def MD : MT Try.prog 53 9 59 Nm RF := {
  mkK := str
  okK := fun x => x.length ≤ maxLen
  litK := fun x => .string x
  mkV := RF.v
  enc := RF.enc
  dec := decOf RF.v
  zero := zeroF
  ty := Try.underlying53
  keyed := string_keyed Try.underlying9
  key := key_str
  keyInv := str_inv
  litInj := fun x y _ _ h => by injection h
  decMk := decOf_mk RF.v_inj
  mkDec := fun _ _ h => mk_decOf h
  encInj := RF.enc_inj
  zeroV := fileZero }
/-- a file and where its bytes lie -/
structure FV where
  f : DF
  g : Option (Nat × Nat)
  c : Nat
def FV.raw (v : FV) : RF := ⟨v.g, v.f.b.length, v.c, v.f.s⟩
/-- its bytes lie in a block of H that is none of F -/
def FVat (W : World) (F H : Nat → Prop) (v : FV) : Prop := Sl W W.heap.size (adr v.g) (bv v.f.b) ∧ v.f.b.length ≤ v.c ∧ v.c ≤ maxLen ∧ (v.f.b = [] ∨ ∃ p, v.g = some p ∧ H p.1 ∧ ¬ F p.1)
section
variable {W W' : World} {F F' H H' S : Nat → Prop} {v : FV}
theorem FVat.sl (h : FVat W F H v) : Sl W W.heap.size (adr v.g) (bv v.f.b) := h.1
theorem FVat.grew (h : FVat W F H v) (hg : Grew S W W') (hs : ∀ k, H k → ¬ F k → ¬ S k) : FVat W' F H v := by
  obtain ⟨h1, h2, h3, h4⟩ := h
  refine ⟨?_, h2, h3, h4⟩
  rcases h4 with h4 | ⟨p, hp, hH, hF⟩
  · exact .inl (by rw [h4]; rfl)
  · rw [hp] at h1 ⊢
    exact (Sl.grewN h1 hg (hs _ hH hF)).more hg.size
theorem FVat.mono (h : FVat W F H v) (hH : ∀ k, H k → H' k) (hF : ∀ k, k < W.heap.size → F' k → F k) : FVat W F' H' v := by
  obtain ⟨h1, h2, h3, h4⟩ := h
  refine ⟨h1, h2, h3, ?_⟩
  rcases h4 with h4 | ⟨p, hp, hpH, hpF⟩
  · exact .inl h4
  · by_cases hb : v.f.b = []
    · exact .inl hb
    · refine .inr ⟨p, hp, hH _ hpH, fun hk => hpF (hF _ ?_ hk)⟩
      rcases h1 with h1 | ⟨b, o, e, _, hlt, _⟩
      · exact absurd (by simpa [bv] using h1) hb
      · rw [hp] at e
        injection e with e
        injection e with e1 e2
        rw [e1]; exact hlt
theorem FVat.nil (W : World) (F H : Nat → Prop) (s : Nat) : FVat W F H ⟨⟨[], s⟩, none, 0⟩ := ⟨.inl rfl, Nat.le_refl _, Nat.zero_le _, .inl rfl⟩
end
/-- the program's disk: its box, its map; F is what it may turn, H besides what its files' bytes lie in -/
def PD (W : World) (p : Nat) (F H : Nat → Prop) (s : DK) : Prop :=
  ∃ (mb : Nat) (G : List (Nm × FV)), At W p [.map (some mb), .int .i64 (s.room : Int), .int .i64 (usedR s.R : Int), .int .i64 s.calls, .int .i64 s.arm, .int .i64 s.keep, .bool s.off] ∧ MapIs MD W mb (mapN FV.raw G) ∧ mapN FV.f G = s.R ∧ (∀ q ∈ G, FVat W F H q.2) ∧
    F p ∧ F mb ∧ (∀ k, F k → H k) ∧ ∀ k, H k → k < W.heap.size
section
variable {W W' : World} {F H H' S : Nat → Prop} {p : Nat} {s s' : DK}
theorem PD.grew (h : PD W p F H s) (hg : Grew S W W') (hs : ∀ k, H k → ¬ S k) : PD W' p F H s := by
  obtain ⟨mb, G, h1, h2, h3, h4, h5, h6, h7, h8⟩ := h
  exact ⟨mb, G, h1.grew hg (hs _ (h7 _ h5)), h2.grew hg (hs _ (h7 _ h6)), h3, fun q hq => (h4 q hq).grew hg (fun k hk _ => hs k hk), h5, h6, h7, fun k hk => Nat.lt_of_lt_of_le (h8 k hk) hg.size⟩
theorem PD.below (h : PD W p F H s) (hb : Below W.heap.size W W') : PD W' p F H s := h.grew (S := fun _ => False) (Grew.below hb) (fun _ _ => id)
theorem PD.drew (h : PD W p F H s) : PD W.drew p F H s := h
theorem PD.kb (h : PD W p F H s) (hk : KB W.heap W') : PD W' p F H s := by
  obtain ⟨mb, G, h1, h2, h3, h4, h5, h6, h7, h8⟩ := h
  refine ⟨mb, G, ?_, h2.kb hk, h3, fun q hq => ?_, h5, h6, h7, fun k hk' => Nat.lt_of_lt_of_le (h8 k hk') hk.1⟩
  · refine ⟨Nat.lt_of_lt_of_le h1.1 hk.1, fun i v hv => ?_⟩
    have hb := hk.2 p h1.1
    exact ⟨(World.cell?_of_block (w := W) hb).trans (h1.2 i v hv).1, (World.frozen?_of_block (w := W) hb).trans (h1.2 i v hv).2⟩
  · obtain ⟨k1, k2, k3, k4⟩ := h4 q hq
    refine ⟨?_, k2, k3, k4⟩
    rcases k1 with k1 | ⟨b, o, e, _, hlt, hc⟩
    · exact .inl k1
    · exact .inr ⟨b, o, e, Nat.lt_of_lt_of_le hlt hk.1, Nat.lt_of_lt_of_le hlt hk.1, fun j u hu => (World.cell?_of_block (a := ⟨b, o + j, none⟩) (w := W) (hk.2 b hlt)).trans (hc j u hu)⟩
theorem PD.more (h : PD W p F H s) (hH : ∀ k, H k → H' k) (hlt : ∀ k, H' k → k < W.heap.size) : PD W p F H' s := by
  obtain ⟨mb, G, h1, h2, h3, h4, h5, h6, h7, h8⟩ := h
  exact ⟨mb, G, h1, h2, h3, fun q hq => (h4 q hq).mono hH (fun _ _ => id), h5, h6, fun k hk => hH k (h7 k hk), hlt⟩
theorem PD.lt (h : PD W p F H s) : ∀ k, H k → k < W.heap.size := by obtain ⟨mb, G, h1, h2, h3, h4, h5, h6, h7, h8⟩ := h; exact h8
theorem PD.box (h : PD W p F H s) : ∃ mb, At W p [.map (some mb), .int .i64 (s.room : Int), .int .i64 (usedR s.R : Int), .int .i64 s.calls, .int .i64 s.arm, .int .i64 s.keep, .bool s.off] ∧ F p ∧ F mb := by obtain ⟨mb, G, h1, h2, h3, h4, h5, h6, h7, h8⟩ := h; exact ⟨mb, h1, h5, h6⟩
theorem raw_look {G : List (Nm × FV)} (x : Nm) : look (mapN FV.raw G) x = (look G x).map FV.raw := mapN_look _ _ _
theorem f_look {G : List (Nm × FV)} {R : DR} (h : mapN FV.f G = R) (x : Nm) : look R x = (look G x).map FV.f := by rw [← h]; exact mapN_look _ _ _
end
end Go.Proofs.Ythnbnhlfiehihaa

