/- Keys of a map that are ids. -/
import Derived.Test.YtjijhmeagjhfoaaMaps
import Derived.Test.YtjijhmeagjhfoaaShO
import Derived.DeepKeys4
namespace Go.Proofs.Ytjijhmeagjhfoaa
set_option maxRecDepth 20000
open Go.ChangeShapes Go.WideShapes Go.ChangeAt Go.RowKit

theorem mapM_all {γ δ : Type} {f : γ → Option δ} {g : γ → δ} : ∀ l : List γ, (∀ i ∈ l, f i = some (g i)) → l.mapM f = some (l.map g)
  | [], _ => rfl
  | a :: l, h => by
    rw [List.mapM_cons, h a (by simp), mapM_all l (fun i hi => h i (by simp [hi]))]
    rfl
theorem flat_one {γ δ : Type} (k : γ → δ) : ∀ l : List γ, (l.map fun i => [k i]).flatten = l.map k
  | [] => rfl
  | a :: l => by rw [List.map_cons, List.flatten_cons, flat_one k l]; rfl
def litI (l : List UInt8) : Lit := .string (keyBytes (l.map fun u => Lit.int .u8 (u.toNat : Int)))
theorem idU : Try.prog.underlying 25 = some (.array 32 5) := by kernel_rfl
theorem idC : Try.prog.cellsOf 25 = 32 := by kernel_rfl
theorem u8C : Try.prog.cellsOf 5 = 1 := by kernel_rfl
theorem idK : Try.prog.keyType 25 = true := by kernel_rfl
theorem key_u8 (d : Nat) (u : UInt8) : Try.prog.keyLits (d + 1) 5 [u8v u] = some [.int .u8 (u.toNat : Int)] := by
  have hw : (Lit.int .u8 (u.toNat : Int)).wf = true := by
    have := UInt8.toNat_lt u
    simp [Lit.wf, IntKind.min, IntKind.max, IntKind.signed, IntKind.bits]
    omega
  simp [Program.keyLits, Try.underlying5, u8v, hw]
theorem key_id (l : List UInt8) (hl : l.length = 32) : keyOf Try.prog 25 (.agg (bv l).toArray) = some (litI l) := by
  obtain ⟨d, hd⟩ : ∃ d, Try.prog.types.size = d + 1 := ⟨Try.prog.types.size - 1, by have : 0 < Try.prog.types.size := of_decide_eq_true (by kernel_rfl); omega⟩
  have hf : Value.formed Try.prog 25 (.agg (bv l).toArray) = true := by
    simp only [Value.formed, idU, idC]
    simp [bv_len, hl]
  have hb : (bv l).length = 32 := by rw [bv_len, hl]
  unfold keyOf
  rw [idU]
  simp only [idK, hf, Bool.and_self, if_true]
  rw [hd]
  unfold Program.keyLits
  have hc : (Value.cells (.agg (bv l).toArray)).toList = bv l := rfl
  rw [idU, hc]
  simp only [idC, hb, if_true, u8C, Nat.mul_one]
  rw [mapM_all (g := fun i => [Lit.int .u8 ((l[i]?.getD 0).toNat : Int)]) _ (fun i hi => ?_)]
  · simp only [Option.map_some, Option.some.injEq]
    unfold litI
    congr 2
    rw [flat_one]
    apply List.ext_getElem?
    intro i
    by_cases hi : i < 32
    · simp [List.getElem?_map, List.getElem?_range hi, List.getElem?_eq_getElem (show i < l.length by omega)]
    · rw [List.getElem?_eq_none (by simp; omega), List.getElem?_eq_none (by simp; omega)]
  · have hi32 : i < 32 := List.mem_range.1 hi
    have hg := bv_get l i (by omega)
    have : ((bv l).drop i).take 1 = [u8v (l[i]?.getD 0)] := by
      have hil : i < (bv l).length := by omega
      rw [List.drop_eq_getElem_cons hil, List.take_succ_cons, List.take_zero]
      rw [List.getElem?_eq_getElem hil] at hg
      injection hg with hg
      rw [hg]
      rfl
    rw [this]
    exact key_u8 d _
theorem id_inv (v : Value) (k : Lit) (h : keyOf Try.prog 25 v = some k) : ∃ l : List UInt8, l.length = 32 ∧ v = .agg (bv l).toArray := by
  obtain ⟨d, hd⟩ : ∃ d, Try.prog.types.size = d + 1 := ⟨Try.prog.types.size - 1, by have : 0 < Try.prog.types.size := of_decide_eq_true (by kernel_rfl); omega⟩
  unfold keyOf at h
  rw [idU] at h
  simp only [idK, Bool.true_and] at h
  split at h
  · rename_i hf
    cases v <;> simp only [Value.formed, idU, idC] at hf <;> try (cases hf; done)
    rename_i cs
    have hsz : cs.size = 32 := by simpa using hf
    rw [hd] at h
    unfold Program.keyLits at h
    have hc : (Value.cells (.agg cs)).toList = cs.toList := rfl
    rw [idU, hc] at h
    have hcl : cs.toList.length = 32 := by simpa using hsz
    simp only [idC, hcl, if_true, u8C, Nat.mul_one] at h
    simp only [Option.map_eq_some_iff] at h
    obtain ⟨ls, ⟨xs, hm, _⟩, _⟩ := h
    have hcell : ∀ i, i < 32 → ∃ b : UInt8, cs.toList[i]? = some (u8v b) := by
      intro i hi
      have hil : i < cs.toList.length := by omega
      have hxl : xs.length = 32 := by simpa using mapM_some_length hm
      have hg := mapM_some_get hm i i (by simp [hi])
      rw [List.getElem?_eq_getElem (show i < xs.length by omega)] at hg
      obtain ⟨n, e0, e1⟩ := keyLits_int' Try.underlying5 hg
      have w0 := keyLits_wf hg (.int .u8 n) (by rw [e1]; simp)
      rw [List.drop_eq_getElem_cons hil, List.take_succ_cons, List.take_zero] at e0
      injection e0 with e0
      have hx : 0 ≤ n ∧ n ≤ 255 := by simpa [Lit.keyWf, Lit.wf, IntKind.min, IntKind.max, IntKind.signed, IntKind.bits] using w0
      refine ⟨UInt8.ofNat n.toNat, ?_⟩
      rw [List.getElem?_eq_getElem hil, e0]
      simp only [u8v, UInt8.toNat_ofNat']
      congr 2
      omega
    refine ⟨cs.toList.map u8of, by simp [hsz], ?_⟩
    congr 1
    apply Array.ext'
    apply List.ext_getElem?
    intro i
    by_cases hi : i < 32
    · obtain ⟨b, hb⟩ := hcell i hi
      simp only [bv, List.getElem?_map, hb, Option.map_some, u8v, u8of]
      simp
    · rw [List.getElem?_eq_none (by simp [hsz]; omega), List.getElem?_eq_none (by simp [bv, hsz]; omega)]
  · cases h
theorem id_keyed : Maps.Keyed Try.prog 25 := Maps.Keyed.of_law (deep_law_laid laidOut (m := 2) (by omega) (of_decide_eq_true (by kernel_rfl)) (by kernel_rfl) (by rw [idU]))
theorem bv_inj {a b : List UInt8} (h : bv a = bv b) : a = b := by
  induction a generalizing b with
  | nil => cases b with
    | nil => rfl
    | cons y b => simp [bv] at h
  | cons x a ih => cases b with
    | nil => simp [bv] at h
    | cons y b =>
      simp only [bv, List.map_cons, List.cons.injEq, u8v, Value.int.injEq, true_and] at h
      have h1 : x = y := UInt8.toNat_inj.1 (by omega)
      rw [h1, ih (by simpa [bv] using h.2)]
theorem litI_inj (a b : List UInt8) (ha : a.length = 32) (hb : b.length = 32) (h : litI a = litI b) : a = b := by
  have := id_keyed.inj (key_id a ha) (h ▸ key_id b hb)
  injection this with this
  exact bv_inj (by simpa using congrArg Array.toList this)
end Go.Proofs.Ytjijhmeagjhfoaa

