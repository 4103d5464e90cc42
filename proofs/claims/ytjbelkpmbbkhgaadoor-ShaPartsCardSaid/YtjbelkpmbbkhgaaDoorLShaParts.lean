/- 'ShaParts': whatever comes in, the law returns true and leaves it as it was. The variable keys starts as the program's text lays it (the card ties it). No other condition. -/
import Derived.Test.YtjbelkpmbbkhgaaDoorWShaParts
import Derived.Test.YtjbelkpmbbkhgaaDoorFrameD
import Derived.Test.YtjbelkpmbbkhgaaDoorCards
import Derived.Test.YtjbelkpmbbkhgaaDoorTie
import Derived.Test.YtjbelkpmbbkhgaaDoorMatF
import Derived.SevenTiedAt
namespace Go.Proofs.YtjbelkpmbbkhgaaDoor.shaParts
open Go Go.RowKit

theorem walk {H : Type} {enc : TypeId × Value → H} (W : World) (args : Array Value) (ds : List (DataW H)) (p : List MemPlace) (h : Args enc Tryd.f4 W args ds p) (hG : GK W) :
    Calls Tryd.prog 4 args W fun e W' => e = .returned (.bool true) ∧ Below W.heap.size W W' := by
  obtain ⟨base, vs, rfl, m0⟩ := h.many (ts := [22, 24]) (by rw [Tryd.params4])
  obtain ⟨v0, vs1, d0, ds1, p0, q0, rfl, rfl, o0, m1⟩ := m0.cons
  obtain ⟨v1, vs2, d1, ds2, p1, q1, rfl, rfl, o1, m2⟩ := m1.cons
  obtain ⟨rfl, rfl⟩ := m2.nil
  obtain ⟨A0, c0, l0, rfl, h0a, h0b, h0c⟩ := o0.mats
  obtain ⟨A1, c1, l1, rfl, h1a, h1b, h1c, h1d⟩ := o1.bytes
  exact ShaParts_walk W hG A0 c0 l0 h0a h0b h0c A1 c1 l1 h1a h1b h1c

theorem types : ∀ t ∈ Tryd.f4.params.toList, Tryd.prog.readableRec t = true ∧ t < Tryd.prog.types.size := by
  rw [Tryd.params4]
  intro t ht
  simp only [List.mem_cons, List.not_mem_nil, or_false] at ht
  rcases ht with rfl | rfl
  all_goals exact ⟨by kernel_rfl, of_decide_eq_true (by kernel_rfl)⟩
theorem fits (H : Type) (ds : List (DataW H)) (hl : ds.length = Tryd.f4.params.toList.length) : Rows.shaPartsSpec.fn H (ds ++ []) = { results := [.lit (.bool true)], args := ds } := by
  rw [Tryd.params4] at hl
  match ds, hl with
  | [d0, d1], _ => rfl

set_option maxRecDepth 100000 in
theorem over : Rows.shaPartsRow.holds Tryd.pinned (OpenSpec.ofChange Rows.shaPartsSpec) :=
  OpenClaim.holds_of_wide 4 Tryd.f4 rfl rfl rfl rfl rfl rfl rfl ⟨rfl, rfl, rfl, rfl, rfl⟩ rfl rfl rfl rfl rfl (by kernel_rfl) Tryd.func4 (by kernel_rfl)
    (of_decide_eq_true (by kernel_rfl)) (by unfold Func.isWrapper; first | (rw [if_pos (by decide +kernel)]; kernel_rfl) | (rw [if_neg (by decide +kernel)]; exact ⟨rfl, rfl⟩))
    (fun os started H enc _ => liftedD 4 Tryd.f4 Rows.shaPartsSpec Tryd.func4 (by kernel_rfl) rfl rfl types fits os started H enc
      (ChangeSpec.witness_shaped (enc := enc) (C := Tryd.checked) (os := os) (X := fun w _ => laidMetH Tryd.prog laidL w) false (World.doorLaid Tryd.prog 14 os) #[.slice none 0 0, .slice none 0 0] 8 rfl (World.shaped_of_RefB (by kernel_rfl) (by kernel_rfl)) (by kernel_rfl) (by kernel_rfl) (by kernel_rfl) (door_met os _))
      (fun W args ds p h hG => walk W args ds p h hG))

theorem proved : Rows.ShaPartsCardSaid :=
  Claim7.holds_tied_plain_at .later [] [.data] true (true, "62a34c4945cbc8382f272962af5fa1d37a6ab82134345874a4559bd6c7a58c5f") false
    over (fun _ h => by cases h) (by kernel_rfl) (fun _ h => by cases h) shaParts_row_tie rfl ⟨rfl, rfl⟩ (by kernel_rfl) rfl
    (fun f fn hf hfn => by
      obtain rfl : f = 4 := Option.some.inj ((show Tryd.prog.funcNamed "newsreel/newsreellaw3.ShaParts" = some 4 by kernel_rfl).symm.trans hf) |>.symm
      obtain rfl : fn = Tryd.f4 := (Option.some.inj (Tryd.func4.symm.trans hfn)).symm
      exact ⟨by kernel_rfl, fun j t ht => by
        rw [Tryd.params4] at ht
        have hm : t ∈ [22, 24] := by simpa using Array.mem_of_getElem? ht
        have hall : ([22, 24].all fun u => !Tryd.prog.wantsStandIn u) = true := by kernel_rfl
        exact (show Tryd.prog.wantsStandIn t = false by simpa using List.all_eq_true.1 hall t hm)⟩)
    (by kernel_rfl)
end Go.Proofs.YtjbelkpmbbkhgaaDoor.shaParts

