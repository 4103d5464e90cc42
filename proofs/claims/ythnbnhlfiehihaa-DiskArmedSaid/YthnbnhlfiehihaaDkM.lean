/- Disks: a disk with one file (plain), for the law of the armed power. -/
import Derived.Test.YthnbnhlfiehihaaDkK
namespace Go.Proofs.Ythnbnhlfiehihaa
open Go.RowKit Go.Maps
set_option maxRecDepth 20000

def DS (c : Int) (a k : Int) (b : List UInt8) (su : Nat) : DK := ⟨1000, c, a, k, false, [([102], ⟨b, su⟩)]⟩
def DO (c : Int) (k : Int) (b : List UInt8) (su : Nat) : DK := ⟨1000, c, 0, k, true, [([102], ⟨b, su⟩)]⟩
theorem look1 (x : Nm) (f : DF) : look [(x, f)] x = some f := by rw [lookN_cons, if_pos rfl]
theorem put1 (x : Nm) (f g : DF) : putN [(x, f)] x g = [(x, g)] := by unfold putN; rw [if_neg (nm_irrefl x), if_pos rfl]
theorem used1 (x : Nm) (f : DF) : usedR [(x, f)] = f.b.length := by simp [usedR, sumN, DF.len]
theorem d0 : (DK.new 1000).create [102] = (0, DS 1 0 0 [] 0) := by kernel_rfl
theorem ds_off (c k : Int) (b : List UInt8) (su : Nat) : (DS c 0 k b su).power = DS c 0 k b su := by simp [DK.power, DS]
theorem ds_arm {c a k : Int} {b : List UInt8} {su : Nat} (ha : 2 ≤ a) : (DS c a k b su).power = DS c (a - 1) k b su := by
  have h1 : 0 < a := by omega
  have h2 : ¬ a - 1 = 0 := by omega
  simp [DK.power, DS, h1, h2]
theorem ds_last (c k : Int) (b : List UInt8) (su : Nat) : (DS c 1 k b su).power = DO c k b su := by simp [DK.power, DS, DO]
theorem do_power (c k : Int) (b : List UInt8) (su : Nat) : (DO c k b su).power = DO c k b su := by simp [DK.power, DO]
theorem d1 {b : List UInt8} (hb : b.length ≤ 200) : (DS 1 0 0 [] 0).append [102] b = (0, DS 2 0 0 b 0) := by
  have h1 : b.length ≤ 1000 := by omega
  unfold DK.append
  rw [ds_off]
  simp [DS, DK.roomy, DK.has, mapR, look1, put1, used1, DK.lay, DF.behind, h1]
theorem d2 (m k : Int) (b : List UInt8) (hm : 0 ≤ m) : (DS 2 0 0 b 0).armed m k = DS 2 m k b 0 := by
  simp only [DK.armed, DS]
  rw [Int.max_eq_left hm]
theorem d3 {c a k : Int} {b : List UInt8} {su : Nat} (ha : 2 ≤ a) : (DS c a k b su).sync [102] = (0, DS (c + 1) (a - 1) k b b.length) := by
  unfold DK.sync
  rw [ds_arm ha]
  simp [DS, DK.has, mapR, look1, put1, DK.lay, DF.sync]
theorem d4 {c k : Int} {b cc : List UInt8} {su : Nat} (hb : b.length ≤ 200) (hc : cc.length ≤ 200) : (DS c 1 k b su).append [102] cc = (34, DO c k (b ++ cc.take k.toNat) su) := by
  have h1 : cc.length ≤ 1000 - b.length := by omega
  unfold DK.append
  rw [ds_last]
  simp [DS, DO, DK.roomy, DK.has, mapR, look1, put1, used1, DF.behind, DK.cutK, h1]
theorem d5 (c k : Int) (b : List UInt8) (su : Nat) : (DO c k b su).sync [102] = (34, DO c k b su) := by
  unfold DK.sync
  rw [do_power]
  simp [DO]
theorem d6 (c k : Int) (b : List UInt8) (su : Nat) : (DO c k b su).create [103] = (34, DO c k b su) := by
  unfold DK.create
  rw [do_power]
  simp [DO]
theorem d7 (c k : Int) (b : List UInt8) (su : Nat) : (DO c k b su).read [102] = ([], false) := by simp [DK.read, DO]
theorem d8 {c k : Int} {b : List UInt8} {su : Nat} (hs : su ≤ b.length) (pk : Int) : (DO c k b su).crash [pk] = DS c 0 k (b.take (su + (pk % ((b.length - su + 1 : Nat) : Int)).toNat)) (su + (pk % ((b.length - su + 1 : Nat) : Int)).toNat) := by
  unfold DK.crash crashR
  by_cases h : su < b.length
  · have h1 := pick_le ⟨b, su⟩ [pk]
    unfold pickOf at h1
    simp only [List.headD_cons] at h1
    have h2 : su + (pk % ((b.length - su + 1 : Nat) : Int)).toNat ≤ b.length := by omega
    simp only [DO, DS]
    rw [if_pos h]
    simp only [crashR, List.headD_cons, DF.first, DF.sync, List.length_take, Nat.min_eq_left h2]
  · have e : su = b.length := by omega
    subst e
    simp only [DO, DS]
    rw [if_neg (Nat.lt_irrefl _)]
    simp [crashR, Int.emod_one]
theorem d9 (c a k : Int) (b : List UInt8) (su : Nat) : (DS c a k b su).read [102] = (b, true) := by simp [DK.read, DS, DK.has, look1]
theorem d10 (c a k : Int) (b : List UInt8) (su : Nat) : ((DS c a k b su).sureOf [102] : Int) = (su : Int) := by simp [DK.sureOf, DS, look1]
theorem d11 (c k : Int) (b : List UInt8) (su : Nat) : ((DO c k b su).sureOf [102] : Int) = (su : Int) := by simp [DK.sureOf, DO, look1]
theorem d12 (c k : Int) (b : List UInt8) (su : Nat) : (DS c 0 k b su).sync [102] = (0, DS (c + 1) 0 k b b.length) := by
  unfold DK.sync
  rw [ds_off]
  simp [DS, DK.has, mapR, look1, put1, DK.lay, DF.sync]
theorem d13 (c k : Int) (b : List UInt8) (su : Nat) : (usedR (DO c k b su).R : Int) = (b.length : Int) := by simp [DO, used1]
end Go.Proofs.Ythnbnhlfiehihaa

