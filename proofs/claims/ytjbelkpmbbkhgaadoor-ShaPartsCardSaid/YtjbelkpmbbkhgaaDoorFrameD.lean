/- A tied law's statement out of its walk: the variable keys as it is laid. -/
import Derived.Test.YtjbelkpmbbkhgaaDoorFrame
import Derived.Test.YtjbelkpmbbkhgaaDoorShDg
import Derived.LaidMore
import Derived.OpenShut
import Derived.Stop.Joined
import Derived.Handed
namespace Go.Proofs.YtjbelkpmbbkhgaaDoor
open Go.ChangeShapes Go.WideShapes Go.ChangeAt Go.RowKit Go.Proofs.YtjbelkpmbbkhgaaDoor.Sh

def laidL : List (String × DataW Unit) := [("newsreel/newsreelref1.keys", Rows.laid_newsreel_newsreelref1_keys)]
theorem gKeys : Tryd.prog.globalNamed "newsreel/newsreelref1.keys" = some 0 := by kernel_rfl
theorem tKeys : (Tryd.prog.globals[0]?).map (·.type) = some 50 := by kernel_rfl
set_option maxRecDepth 100000 in
theorem door_met (os : Os) (args : Array Value) : laidMetH Tryd.prog laidL ((World.doorLaid Tryd.prog 14 os).forCall (fun _ _ => 0) ⟨#[], args, []⟩).memory :=
  laidMetH_of_parts3 (fuel := 8) (laidMet_of_run' 8 (by kernel_rfl) (by kernel_rfl)) (by kernel_rfl) (by kernel_rfl)
theorem laid_keys : (Rows.laid_newsreel_newsreelref1_keys : DataW Unit) = .agg (keys.map fun (z : Nat) => .lit (.int .u32 (z : Int))) := rfl
theorem gk_of_laid {W : World} (h : laidMetH Tryd.prog laidL W) : GK W := by
  rw [MakeChecks.laidMetH_plain _ _ _ (by kernel_rfl)] at h
  obtain ⟨ps, ⟨g0, t0, cs0, f0, p0, q0, hg0, ht0, hv0, hd0, _, _⟩, _, _⟩ := h
  obtain rfl := Option.some.inj (gKeys.symm.trans hg0)
  obtain rfl := Option.some.inj (tKeys.symm.trans ht0)
  have hu : Tryd.prog.underlying 50 = some (.array 64 41) := by kernel_rfl
  have hc1 : Tryd.prog.cellsOf 41 = 1 := by kernel_rfl
  have hcA : Tryd.prog.cellsOf 50 = 64 := by kernel_rfl
  rw [laid_keys] at hd0
  obtain ⟨xs, m1, _, hx1, hlen, hxl, hel⟩ := DataW.trod_array hu hd0
  rw [hcA] at hlen
  rw [hc1] at hel
  simp only [Prod.mk.injEq, DataW.agg.injEq] at hx1
  have hx := hx1.1
  have hcell : ∀ i, i < 64 → W.cell? ⟨0, i, none⟩ = some (.int .u32 ((at' keys i : Nat) : Int)) := by
    intro i hi
    have hti := hel i hi
    have hil : i < xs.length := by omega
    rw [List.getElem?_eq_getElem hil, Nat.mul_one] at hti
    obtain ⟨a, e0, e1, _⟩ := DataW.trod_int (k := .u32) Tryd.underlying41 hti
    have hk : (keys.map fun (z : Nat) => (DataW.lit (.int .u32 (z : Int)) : DataW Unit))[i]? = (xs.map (·.1))[i]? := by rw [hx]
    rw [List.getElem?_map, List.getElem?_map, List.getElem?_eq_getElem hil, List.getElem?_eq_getElem (show i < keys.length by simpa [keys] using hi)] at hk
    simp only [Option.map_some, Option.some.injEq] at hk
    rw [e1] at hk
    have ha : a = ((at' keys i : Nat) : Int) := by
      unfold at'
      rw [List.getElem?_eq_getElem (show i < keys.length by simpa [keys] using hi)]
      simpa using hk.symm
    have hcl : i < cs0.toList.length := by rw [hlen]; exact hi
    rw [List.drop_eq_getElem_cons hcl, List.take_succ_cons, List.take_zero] at e0
    injection e0 with e0
    rw [World.var?_cell hg0 hv0 i, ← Array.getElem?_toList, List.getElem?_eq_getElem hcl, e0, ha]
  refine ⟨?_, hcell⟩
  exact World.block_lt_of_cell? W _ (hcell 0 (by omega))

/-- THE FORM's STEP over a laid variable. -/
theorem liftedD (f : FuncId) (fn : Func) (s : ChangeSpec) (hfn : Tryd.prog.funcs[f]? = some fn) (noInit : Tryd.prog.inits.idxOf? f = none) (hvars : s.vars = []) (hres : fn.resultTypes = #[4])
    (hr : ∀ t ∈ fn.params.toList, Tryd.prog.readableRec t = true ∧ t < Tryd.prog.types.size)
    (hs : ∀ (H : Type) (ds : List (DataW H)), ds.length = fn.params.toList.length → s.fn H (ds ++ []) = { results := [.lit (.bool true)], args := ds })
    (os : Os) (started : os.Started) (H : Type) (enc : TypeId × Value → H)
    (witness : ∃ (w : World) (tape : Tape) (i : Input), w.os = os ∧ (w.forCall tape i).Shaped Tryd.prog ∧ i.vars = [] ∧ Input.okWide Tryd.prog (w.forCall tape i) .any w.heap.size f i ∧
      ((s.pre enc Tryd.prog fn [] false (w.forCall tape i).memory i.args ∧ laidMetH Tryd.prog laidL (w.forCall tape i).memory) ∧ sizedMet enc Tryd.prog fn (OpenSpec.ofChange s) false (w.forCall tape i).memory i.args) ∧ ({} : Assume).holds Tryd.prog (lone (Frame.enter Tryd.prog f i.args .normal) [] (w.forCall tape i)))
    (walk : ∀ (W : World) (args : Array Value) (ds : List (DataW H)) (p : List MemPlace), Args enc fn W args ds p → GK W → Calls Tryd.prog f args W fun e W' => e = .returned (.bool true) ∧ Below W.heap.size W W') :
    ReturnsInHanded {} Tryd.checked os f .any (fun w args => (s.pre enc Tryd.prog fn [] false w args ∧ laidMetH Tryd.prog laidL w) ∧ sizedMet enc Tryd.prog fn (OpenSpec.ofChange s) false w args) (s.post enc Tryd.prog fn false true false false) := by
  refine returnsInHanded_of_change_and (C := Tryd.checked) (X := fun w _ => laidMetH Tryd.prog laidL w) (fun _ _ _ hh h => h.of_heap hh) own started noInit hfn witness ?_
  intro W base args ds gs before hval hW _ hsz0 hL _
  have hsz : (DataW.weightsEach Tryd.prog (fn.params.toList ++ s.plain.varTypes Tryd.prog) (ds ++ gs)).all (· ≤ reachBytes) = true := hsz0
  have hW' := hW
  obtain ⟨p, q, hA0, hV, rfl, hfz, hnd⟩ := hW
  have hA : RdAll enc W fn.params.toList args.toList ds p := hA0
  rw [hvars] at hV
  obtain ⟨rfl, rfl⟩ := trodVars_none hV
  have hvt : s.plain.varTypes Tryd.prog = [] := by simp [ChangeSpec.plain, DataSpec.varTypes, hvars]
  rw [hvt] at hsz
  simp only [List.append_nil] at hsz
  refine (walk W args ds p ⟨⟨base, hval⟩, hA, fun n hn => by simpa using List.all_eq_true.1 hsz n hn⟩ (gk_of_laid hL)).mono fun e W' ⟨he, bel⟩ => ?_
  subst he
  have e := hs H ds (rdAll_len _ _ _ _ hA)
  refine ⟨_, rfl, ds, [], p ++ [], [], p, [], hW', ?_, ?_, ?_, bel.frame _, fun h => by cases h⟩
  · rw [e, hres]
    exact trodAll_mk1 (shut_bool Tryd.underlying4 _)
  · rw [e]
    exact rdAll_below bel _ _ _ _ hr hA
  · rw [e, hvars]; rfl
end Go.Proofs.YtjbelkpmbbkhgaaDoor

