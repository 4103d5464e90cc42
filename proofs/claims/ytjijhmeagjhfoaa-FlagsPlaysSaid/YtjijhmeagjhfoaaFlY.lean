/- Flags: a map beside the document's, two such pairs; the law's acts. -/
import Derived.Test.YtjijhmeagjhfoaaFlZ
import Derived.Test.YtjijhmeagjhfoaaStampF
namespace Go.Proofs.Ytjijhmeagjhfoaa
open Go.RowKit
set_option maxRecDepth 20000

theorem FSt.grew {S : Nat → Prop} {w w' : World} {m b : Nat} {R : List FE} (h : FSt w m b R) (hg : Grew S w w') (hm : ¬ S m) (hb : ¬ S b) : FSt w' m b R := by
  obtain ⟨h1, ⟨L, h2, h3⟩, h4⟩ := h
  have hlt := h2.lt
  obtain ⟨h0, es, ⟨es', clock, he, h5⟩, h6⟩ := h2
  exact ⟨h1.grew hg hm, ⟨L, ⟨h0, es, ⟨es', clock, (hg.block b hlt hb).trans he, h5⟩, h6⟩, h3⟩, h4⟩
theorem DS.lt {w : World} {d : Nat} {F : Nat → Prop} {R : List FE} (h : DS w d F R) : ∀ k, F k → k < w.heap.size := by
  obtain ⟨_, _, _, _, _, _, _, _, h⟩ := h
  exact h
theorem DS.here {w : World} {d : Nat} {F : Nat → Prop} {R : List FE} (h : DS w d F R) : F d := by
  obtain ⟨_, _, _, _, _, _, h, _⟩ := h
  exact h
def Foot (m b : Nat) (F : Nat → Prop) (k : Nat) : Prop := k = m ∨ k = b ∨ F k
structure PS (w0 : World) (m b d : Nat) (F : Nat → Prop) (R Q : List FE) (W : World) : Prop where
  fs : FSt W m b R
  ds : DS W d F Q
  nm : ¬ F m
  nb : ¬ F b
  h1 : w0.heap.size ≤ b
  h2 : ∀ k, F k → w0.heap.size ≤ k
section
variable {w0 W W' : World} {m b d m2 b2 d2 : Nat} {F F2 F' S : Nat → Prop} {R Q R' Q' R2 Q2 : List FE}
theorem PS.lt (h : PS w0 m b d F R Q W) : ∀ k, Foot m b F k → k < W.heap.size := fun k hk => by
  rcases hk with rfl | rfl | hk
  · exact h.fs.1.1
  · exact h.fs.blt
  · exact h.ds.lt k hk
theorem PS.grew (h : PS w0 m b d F R Q W) (hg : Grew S W W') (hn : ∀ k, Foot m b F k → ¬ S k) : PS w0 m b d F R Q W' :=
  ⟨h.fs.grew hg (hn m (.inl rfl)) (hn b (.inr (.inl rfl))), h.ds.grew hg (fun k hk => hn k (.inr (.inr hk))), h.nm, h.nb, h.h1, h.h2⟩
theorem PS.fput (h : PS w0 m b d F R Q W) (hf : FSt W' m b R') (hg : W.grownBy W' (some b)) : PS w0 m b d F R' Q W' :=
  ⟨hf, h.ds.grew (S := fun k => k = b) (Grew.grown hg (fun r e => (Option.some.inj e).symm)) (fun k hk e => h.nb (e ▸ hk)), h.nm, h.nb, h.h1, h.h2⟩
theorem PS.dput (h : PS w0 m b d F R Q W) (hd : DS W' d F' Q') (hF : ∀ i, F' i → F i ∨ W.heap.size ≤ i) (hg : Grew F W W') (hw : w0.heap.size ≤ W.heap.size) : PS w0 m b d F' R Q' W' := by
  have hm := h.fs.1.1
  have hb := h.fs.blt
  refine ⟨h.fs.grew hg h.nm h.nb, hd, fun hk => ?_, fun hk => ?_, h.h1, fun k hk => ?_⟩
  · rcases hF _ hk with h' | h'
    · exact h.nm h'
    · omega
  · rcases hF _ hk with h' | h'
    · exact h.nb h'
    · omega
  · rcases hF _ hk with h' | h'
    · exact h.h2 k h'
    · omega
structure AS (w0 : World) (m b d : Nat) (F : Nat → Prop) (m2 b2 d2 : Nat) (F2 : Nat → Prop) (R Q R2 Q2 : List FE) (W : World) : Prop where
  p1 : PS w0 m b d F R Q W
  p2 : PS w0 m2 b2 d2 F2 R2 Q2 W
  dj : ∀ k, Foot m b F k → ¬ Foot m2 b2 F2 k
  bw : Below w0.heap.size w0 W
theorem AS.swap (h : AS w0 m b d F m2 b2 d2 F2 R Q R2 Q2 W) : AS w0 m2 b2 d2 F2 m b d F R2 Q2 R Q W := ⟨h.p2, h.p1, fun k h1 h2 => h.dj k h2 h1, h.bw⟩
theorem AS.ne (h : AS w0 m b d F m2 b2 d2 F2 R Q R2 Q2 W) : b ≠ b2 := fun e => h.dj b (.inr (.inl rfl)) (.inr (.inl e))
theorem AS.below (h : AS w0 m b d F m2 b2 d2 F2 R Q R2 Q2 W) (hb : Below W.heap.size W W') : AS w0 m b d F m2 b2 d2 F2 R Q R2 Q2 W' :=
  ⟨h.p1.grew (S := fun _ => False) (Grew.below hb) (fun _ _ => id), h.p2.grew (S := fun _ => False) (Grew.below hb) (fun _ _ => id), h.dj, h.bw.trans (hb.mono h.bw.size)⟩
theorem AS.fput (h : AS w0 m b d F m2 b2 d2 F2 R Q R2 Q2 W) (hf : FSt W' m b R') (hg : W.grownBy W' (some b)) : AS w0 m b d F m2 b2 d2 F2 R' Q R2 Q2 W' :=
  ⟨h.p1.fput hf hg, h.p2.grew (S := fun k => k = b) (Grew.grown hg (fun r e => (Option.some.inj e).symm)) (fun k hk e => h.dj k (.inr (.inl e)) hk), h.dj, below_grown h.bw hg h.p1.h1 h.bw.size⟩
theorem AS.dput (h : AS w0 m b d F m2 b2 d2 F2 R Q R2 Q2 W) (hd : DS W' d F' Q') (hF : ∀ i, F' i → F i ∨ W.heap.size ≤ i) (hg : Grew F W W') : AS w0 m b d F' m2 b2 d2 F2 R Q' R2 Q2 W' := by
  refine ⟨h.p1.dput hd hF hg h.bw.size, h.p2.grew hg (fun k hk hk' => h.dj k (.inr (.inr hk')) hk), fun k hk hk2 => ?_, hg.belowB h.bw (Nat.le_refl _) h.p1.h2⟩
  rcases hk with hk | hk | hk
  · exact h.dj k (.inl hk) hk2
  · exact h.dj k (.inr (.inl hk)) hk2
  · rcases hF k hk with h' | h'
    · exact h.dj k (.inr (.inr h')) hk2
    · have := h.p2.lt k hk2
      omega
/-- another map for the second one -/
theorem AS.newf (h : AS w0 m b d F m2 b2 d2 F2 R Q R2 Q2 W) (hb : Below W.heap.size W W') {m' b' : Nat} (hf : FSt W' m' b' R') (hm : W.heap.size ≤ m') (hb' : W.heap.size ≤ b') : AS w0 m b d F m' b' d2 F2 R Q R' Q2 W' := by
  have h' := h.below hb
  have hs := h.bw.size
  refine ⟨h'.p1, ⟨hf, h'.p2.ds, fun hk => ?_, fun hk => ?_, by omega, h.p2.h2⟩, fun k hk hk2 => ?_, h'.bw⟩
  · have := h.p2.ds.lt _ hk; omega
  · have := h.p2.ds.lt _ hk; omega
  · have hkl := h.p1.lt k hk
    rcases hk2 with e | e | hk2
    · omega
    · omega
    · exact h.dj k hk (.inr (.inr hk2))
/-- another one of the document's for the second one -/
theorem AS.newd (h : AS w0 m b d F m2 b2 d2 F2 R Q R2 Q2 W) (hb : Below W.heap.size W W') {d' : Nat} (hd : DS W' d' (fun k => k = d') Q') (hd' : W.heap.size ≤ d') : AS w0 m b d F m2 b2 d' (fun k => k = d') R Q R2 Q' W' := by
  have h' := h.below hb
  have hs := h.bw.size
  refine ⟨h'.p1, ⟨h'.p2.fs, hd, fun hk => ?_, fun hk => ?_, h.p2.h1, fun k hk => by omega⟩, fun k hk hk2 => ?_, h'.bw⟩
  · have := h.p2.fs.1.1; omega
  · have := h.p2.fs.blt; omega
  · have hkl := h.p1.lt k hk
    rcases hk2 with e | e | hk2
    · exact h.dj k hk (.inl e)
    · exact h.dj k hk (.inr (.inl e))
    · omega
end
theorem DS.new (w : World) : DS (w.alloc (.cells #[.slice none 0 0] 44)) w.heap.size (fun k => k = w.heap.size) [] := by
  have h := At.new w 44 #[.slice none 0 0]
  exact ⟨none, 0, h, .inl ⟨rfl, rfl, rfl⟩, Nat.le_refl _, by simp [maxLen], rfl, ⟨List.Pairwise.nil, fun p hp => by simp at hp⟩, fun k hk => by have := h.1; omega⟩
/-- all ids are of eight -/
def In8 (R : List FE) : Prop := ∀ p ∈ R, p.1 ∈ (List.range 8).map idOf
theorem idOf_mod (k : Nat) : idOf k = idOf (k % 8) := by
  apply ID.ext'
  show [UInt8.ofNat (k % 2)] ++ List.replicate 14 0 ++ [UInt8.ofNat (k / 2 % 2)] ++ List.replicate 15 0 ++ [UInt8.ofNat (k / 4 % 2)] = [UInt8.ofNat (k % 8 % 2)] ++ List.replicate 14 0 ++ [UInt8.ofNat (k % 8 / 2 % 2)] ++ List.replicate 15 0 ++ [UInt8.ofNat (k % 8 / 4 % 2)]
  rw [show k % 8 % 2 = k % 2 by omega, show k % 8 / 2 % 2 = k / 2 % 2 by omega, show k % 8 / 4 % 2 = k / 4 % 2 by omega]
theorem idOf_mem (k : Nat) : idOf k ∈ (List.range 8).map idOf := by
  rw [idOf_mod]
  exact List.mem_map.2 ⟨k % 8, List.mem_range.2 (by omega), rfl⟩
theorem In8.put {R : List FE} (h : In8 R) (k : Nat) (m : FM) : In8 (putR R (idOf k) m) := fun p hp => by
  rcases mem_putR hp with e | hp
  · rw [e]; exact idOf_mem k
  · exact h p hp
theorem In8.putIf {R : List FE} (h : In8 R) (k : Nat) (m : FM) : In8 (putIf R (idOf k) m) := by
  unfold Go.Proofs.Ytjijhmeagjhfoaa.putIf
  split
  · exact h.put k m
  · exact h
theorem mem_putR1 {R : List FE} {x : ID} {m : FM} {p : FE} (h : p ∈ putR R x m) : p.1 = x ∨ p ∈ R := mem_putR h
theorem In8.join {S : List FE} (k : In8 S) : ∀ {R : List FE}, In8 R → In8 (joinR R S) := by
  induction S with
  | nil => intro R h; exact h
  | cons q S ih =>
    intro R h
    refine ih (fun p hp => k p (by simp [hp])) (R := putR R q.1 q.2) fun p hp => ?_
    rcases mem_putR hp with e | hp
    · rw [e]; exact k q (by simp)
    · exact h p hp
theorem len_sub {γ : Type} [DecidableEq γ] : ∀ (l k : List γ), l.Nodup → (∀ x ∈ l, x ∈ k) → l.length ≤ k.length
  | [], _, _, _ => Nat.zero_le _
  | x :: l, k, hn, hs => by
    obtain ⟨h1, h2⟩ := List.nodup_cons.1 hn
    have hx := hs x (by simp)
    have hk := List.length_erase_of_mem hx
    have hp : 0 < k.length := List.length_pos_of_mem hx
    have ih := len_sub l (k.erase x) h2 (fun y hy => (List.mem_erase_of_ne (fun e => h1 (by rw [← e]; exact hy))).2 (hs y (by simp [hy])))
    rw [List.length_cons]
    omega
theorem In8.len {R : List FE} (h : In8 R) (hR : Rise R) : R.length ≤ 8 := by
  have nd : (R.map (·.1)).Nodup := by
    rw [List.nodup_iff_pairwise_ne, List.pairwise_map]
    exact hR.apart
  have := len_sub (R.map (·.1)) ((List.range 8).map idOf) nd (fun x hx => by
    obtain ⟨p, hp, rfl⟩ := List.mem_map.1 hx
    exact h p hp)
  simpa using this
theorem join_empty {R : List FE} (h : GoodR R) : joinR [] R = R := by
  have hn : GoodR [] := ⟨List.Pairwise.nil, fun p hp => by simp at hp⟩
  rw [join_comm hn h]
  rfl
end Go.Proofs.Ytjijhmeagjhfoaa

