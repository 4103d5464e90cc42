/- Disks: the document's, in memory. -/
import Derived.Test.YthnbnhlfiehihaaDk
import Derived.Test.YthnbnhlfiehihaaRowS
namespace Go.Proofs.Ythnbnhlfiehihaa
open Go.RowKit Go.Maps
set_option maxRecDepth 20000

abbrev NF := Nm × FV
def NF.cells (q : NF) : List Value := [str q.1, .slice (adr q.2.g) q.2.f.b.length q.2.c, .int .i64 (q.2.f.s : Int)]
theorem fileinfo : (Try.prog.info? 79).map (fun i => (i.zero, i.size, i.bytes)) = some (some (.agg #[.string ⟨#[]⟩, .slice none 0 0, .int .i64 0]), 3, 48) := by kernel_rfl
def z0NF : NF := ([], ⟨⟨[], 0⟩, none, 0⟩)
def EK : ET Try.prog 63 79 NF := {
  n := 3
  bytes := 48
  cells := NF.cells
  zero := z0NF
  z := .agg #[.string ⟨#[]⟩, .slice none 0 0, .int .i64 0]
  ty := Try.underlying63
  info := fileinfo
  zc := rfl
  pos := by omega
  len := fun _ => rfl
  one := fun x u hu => by
    simp only [NF.cells, List.mem_cons, List.not_mem_nil, or_false] at hu
    rcases hu with rfl | rfl | rfl <;> rfl
  small := by omega }
/-- the document's disk: its box, its row -/
def DD (W : World) (d : Nat) (F H : Nat → Prop) (s : DK) : Prop :=
  ∃ (A : Option Addr) (c : Nat) (G : List NF), At W d [.int .i64 (s.room : Int), .slice A G.length c, .int .i64 s.calls, .int .i64 s.arm, .int .i64 s.keep, .bool s.off] ∧
    (A = none ∧ G = [] ∧ c = 0 ∨ ∃ g, A = some ⟨g, 0, none⟩ ∧ F g ∧ g ≠ d ∧ EK.Row W g G) ∧ G.length ≤ c ∧ c ≤ maxLen ∧ mapN FV.f G = s.R ∧ (∀ q ∈ G, FVat W F H q.2) ∧ F d ∧ (∀ k, F k → H k) ∧ ∀ k, H k → k < W.heap.size
section
variable {W W' : World} {F H H' S : Nat → Prop} {d : Nat} {s s' : DK}
theorem DD.grew (h : DD W d F H s) (hg : Grew S W W') (hs : ∀ k, H k → ¬ S k) : DD W' d F H s := by
  obtain ⟨A, c, G, h1, h2, h3, h4, h5, h6, h7, h8, h9⟩ := h
  refine ⟨A, c, G, h1.grew hg (hs _ (h8 _ h7)), ?_, h3, h4, h5, fun q hq => (h6 q hq).grew hg (fun k hk _ => hs k hk), h7, h8, fun k hk => Nat.lt_of_lt_of_le (h9 k hk) hg.size⟩
  rcases h2 with h2 | ⟨g, e, hF, hne, hr⟩
  · exact .inl h2
  · exact .inr ⟨g, e, hF, hne, At.grew hr hg (hs g (h8 _ hF))⟩
theorem DD.below (h : DD W d F H s) (hb : Below W.heap.size W W') : DD W' d F H s := h.grew (S := fun _ => False) (Grew.below hb) (fun _ _ => id)
theorem DD.drew (h : DD W d F H s) : DD W.drew d F H s := h
theorem DD.more (h : DD W d F H s) (hH : ∀ k, H k → H' k) (hlt : ∀ k, H' k → k < W.heap.size) : DD W d F H' s := by
  obtain ⟨A, c, G, h1, h2, h3, h4, h5, h6, h7, h8, h9⟩ := h
  exact ⟨A, c, G, h1, h2, h3, h4, h5, fun q hq => (h6 q hq).mono hH (fun _ _ => id), h7, fun k hk => hH k (h8 k hk), hlt⟩
theorem DD.lt (h : DD W d F H s) : ∀ k, H k → k < W.heap.size := by obtain ⟨A, c, G, h1, h2, h3, h4, h5, h6, h7, h8, h9⟩ := h; exact h9
/-- an element's cells -/
theorem fileAt {l : List NF} {w : World} {A : Option Addr} (h : Sl w w.heap.size A (EK.dv l)) {k : Nat} {q : NF} (hx : l[k]? = some q) : ∃ g o, A = some ⟨g, o, none⟩ ∧ g < w.heap.size ∧
    w.cell? ⟨g, o + k * 3, none⟩ = some (str q.1) ∧ w.cell? ⟨g, o + k * 3 + 1, none⟩ = some (.slice (adr q.2.g) q.2.f.b.length q.2.c) ∧ w.cell? ⟨g, o + k * 3 + 2, none⟩ = some (.int .i64 (q.2.f.s : Int)) := by
  obtain ⟨g, o, h1, h2, _, h4⟩ := EK.cell_at h hx
  have h5 : ∀ (j : Nat) (u : Value), (NF.cells q)[j]? = some u → w.cell? ⟨g, o + k * 3 + j, none⟩ = some u := fun j u hu => by
    have := h4 j u hu
    rw [← Nat.add_assoc] at this
    exact this
  exact ⟨g, o, h1, h2, h5 0 _ rfl, h5 1 _ rfl, h5 2 _ rfl⟩
end
end Go.Proofs.Ythnbnhlfiehihaa

