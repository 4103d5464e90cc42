/- Disks: calls with outcomes written out; what is known. -/
import Derived.Test.YthnbnhlfiehihaaDkX
import Derived.Test.YthnbnhlfiehihaaDkC
namespace Go.Proofs.Ythnbnhlfiehihaa
open Go.RowKit Go.Maps
set_option maxRecDepth 20000

section
variable (w : World) (p : Nat) (F H : Nat → Prop) {s s' : DK} (n : Nat) {x : Nm} {r : Int}
theorem Create_lit {r' : Nat} (e : s.create x = (r', s')) (hr : (r' : Int) = r) (h : PD w p F H s) (hok : s.ok n) (hn : n < 1000000) (hx : x.length ≤ 100) :
    Calls Try.prog 9 #[.pointer (some ⟨p, 0, none⟩), .string ⟨x.toArray⟩] w fun e w' => e = .returned (.int .i64 r) ∧ PD w' p F H s' ∧ Grew F w w' := by
  have := Create_any w p F H s n h hok hn x (by simp only [maxLen]; omega)
  rw [e, hr] at this
  exact this
theorem Sync_lit {r' : Nat} (e : s.sync x = (r', s')) (hr : (r' : Int) = r) (h : PD w p F H s) (hok : s.ok n) (hn : n < 1000000) (hx : x.length ≤ 100) :
    Calls Try.prog 12 #[.pointer (some ⟨p, 0, none⟩), .string ⟨x.toArray⟩] w fun e w' => e = .returned (.int .i64 r) ∧ PD w' p F H s' ∧ Grew F w w' := by
  have := Sync_any w p F H s n h hok hn x (by simp only [maxLen]; omega)
  rw [e, hr] at this
  exact this
theorem Append_lit {r' : Nat} {b : List UInt8} (e : s.append x b = (r', s')) (hr : (r' : Int) = r) (h : PD w p F H s) (hok : s.ok n) (hn : n < 1000000) (hx : x.length ≤ 100) (A : Option Addr) (c l : Nat) (hl : b.length = l) (hm : l ≤ 16777216) (hc : l ≤ c) (hS : Sl w w.heap.size A (bv b)) (hSF : b = [] ∨ ∀ a, A = some a → ¬ F a.block) :
    Calls Try.prog 10 #[.pointer (some ⟨p, 0, none⟩), .string ⟨x.toArray⟩, .slice A l c] w fun e w' => e = .returned (.int .i64 r) ∧ ∃ H', PD w' p F H' s' ∧ Grew F w w' := by
  have := Append_any w p F H s n h hok hn x (by simp only [maxLen]; omega) A c l b hl hm hc hS hSF
  rw [e] at this
  exact this.mono fun e w' ⟨h1, H', h2, _, h3⟩ => ⟨by rw [h1, hr], H', h2, h3⟩
theorem Sure_lit (e : (s.sureOf x : Int) = r) (h : PD w p F H s) (hx : x.length ≤ 100) :
    Calls Try.prog 17 #[.pointer (some ⟨p, 0, none⟩), .string ⟨x.toArray⟩] w fun e w' => e = .returned (.int .i64 r) ∧ w' = w := by
  have := Sure_any w p F H s h x (by simp only [maxLen]; omega)
  rw [e] at this
  exact this
theorem Used_lit (e : (usedR s.R : Int) = r) (h : PD w p F H s) : Calls Try.prog 16 #[.pointer (some ⟨p, 0, none⟩)] w fun e w' => e = .returned (.int .i64 r) ∧ w' = w := by
  rw [← e]; exact Used_any w p F H s h
theorem Calls_lit (e : s.calls = r) (h : PD w p F H s) : Calls Try.prog 14 #[.pointer (some ⟨p, 0, none⟩)] w fun e w' => e = .returned (.int .i64 r) ∧ w' = w := by
  rw [← e]; exact Calls_any w p F H s h
theorem Down_lit {t : Bool} (e : s.off = t) (h : PD w p F H s) : Calls Try.prog 13 #[.pointer (some ⟨p, 0, none⟩)] w fun e w' => e = .returned (.bool t) ∧ w' = w := by
  rw [← e]; exact Down_any w p F H s h
theorem Arm_lit {m k : Int} (e : s.armed m k = s') (h : PD w p F H s) (h0 : -9223372036854775808 ≤ m) (h1 : m ≤ 9223372036854775807) : Calls Try.prog 11 #[.pointer (some ⟨p, 0, none⟩), .int .i64 m, .int .i64 k] w fun e w' => e = .returned (.tuple #[]) ∧ PD w' p F H s' ∧ Grew F w w' := by
  rw [← e]; exact Arm_any w p F H s h m k h0 h1
theorem Names_lit {m : Nat} (e : s.R.length = m) (h : PD w p F H s) (hok : s.ok n) (hn : n < 1000000) : Calls Try.prog 25 #[.pointer (some ⟨p, 0, none⟩)] w fun e w' => ∃ A c, e = .returned (.slice A m c) ∧ NamesAt w w' A c s.names ∧ Below w.heap.size w w' := by
  rw [← e]; exact Names_any w p F H s n h hok hn
theorem Read_lit {b : List UInt8} {t : Bool} (e : s.read x = (b, t)) (h : PD w p F H s) (hok : s.ok n) (hx : x.length ≤ 100) :
    Calls Try.prog 15 #[.pointer (some ⟨p, 0, none⟩), .string ⟨x.toArray⟩] w fun e w' => ∃ A c, e = .returned (.tuple #[.slice A b.length c, .bool t]) ∧ Sl w' w'.heap.size A (bv b) ∧ (∀ a, A = some a → w.heap.size ≤ a.block) ∧ Below w.heap.size w w' := by
  have := Read_any w p F H s n h hok x (by simp only [maxLen]; omega)
  rw [e] at this
  exact this
theorem Crash_lit {ps : List Int} (e : s.crash ps = s') (h : PD w p F H s) (hok : s.ok n) (hn : n < 1000000) (A : Option Addr) (c l : Nat) (hl : ps.length = l) (hS : Sl w w.heap.size A (iv ps)) (hSF : ps = [] ∨ ∀ a, A = some a → ¬ F a.block) (hpl : l ≤ 1000) :
    Calls Try.prog 18 #[.pointer (some ⟨p, 0, none⟩), .slice A l c] w fun e w' => e = .returned (.tuple #[]) ∧ ∃ H', PD w' p F H' s' ∧ Grew F w w' := by
  subst hl
  have := Crash_any w p F H s n h hok hn A c ps hS hSF (by simp only [maxLen]; omega)
  rw [e] at this
  exact this.mono fun e w' ⟨h1, H', h2, _, h3⟩ => ⟨h1, H', h2, h3⟩
end
theorem nfOf {w : World} {A : Option Addr} {l : List UInt8} {F : Nat → Prop} (h : Sl w w.heap.size A (bv l)) (hF : ∀ k, F k → w.heap.size ≤ k) : l = [] ∨ ∀ a, A = some a → ¬ F a.block := by
  rcases h with h | ⟨g, o, rfl, h1, _⟩
  · exact .inl (by simpa [bv] using h)
  · exact .inr fun a e hk => by cases e; exact absurd (hF g hk) (by omega)
/-- a row of one number or more that has just been laid -/
theorem Sl.ints (w : World) (t : TypeId) (ps : List Int) (fr : Nat × Nat) : Sl (w.alloc (.cells (iv ps).toArray t fr)) (w.alloc (.cells (iv ps).toArray t fr)).heap.size (some ⟨w.heap.size, 0, none⟩) (iv ps) := by
  have := Sl.new w t (iv ps).toArray fr
  rw [World.size_alloc]
  exact this
def K0 : DK := DK.new 10
def K1 : DK := ⟨10, 1, 0, 0, false, [([120], ⟨[], 0⟩)]⟩
def K2 : DK := ⟨10, 2, 0, 0, false, [([120], ⟨[97, 98, 99], 0⟩)]⟩
def K3 : DK := ⟨10, 2, 0, 0, false, [([120], ⟨[97, 98], 2⟩)]⟩
def K4 : DK := ⟨10, 2, 1, 0, false, [([120], ⟨[97, 98], 2⟩)]⟩
def K5 : DK := ⟨10, 2, 0, 0, true, [([120], ⟨[97, 98], 2⟩)]⟩
theorem k1 : K0.create [120] = (0, K1) := by kernel_rfl
theorem k2 : K1.append [120] [97, 98, 99] = (0, K2) := by kernel_rfl
theorem k3 : K2.append [120] [0, 0, 0, 0, 0, 0, 0, 0] = (33, K2) := by kernel_rfl
theorem k4 : K2.create [120] = (32, K2) := by kernel_rfl
theorem k5 : K2.sync [121] = (31, K2) := by kernel_rfl
theorem k6 : K2.crash [2] = K3 := by kernel_rfl
theorem k7 : K3.read [120] = ([97, 98], true) := by kernel_rfl
theorem k8 : K3.armed 1 0 = K4 := by kernel_rfl
theorem k9 : K4.sync [120] = (34, K5) := by kernel_rfl
theorem o0 : K0.ok 10 := (DK.ok.new 10).more (by omega)
theorem o1 : K1.ok 11 := by have := o0.create [120]; rw [k1] at this; exact this
theorem o2 : K2.ok 12 := by have := o1.append [120] [97, 98, 99]; rw [k2] at this; exact this
theorem o3 : K3.ok 12 := by have := o2.crash [2]; rw [k6] at this; exact this
theorem o4 : K4.ok 12 := by have := o3.armed (m := 1) (k := 0) (by omega) (by omega) (by omega); rw [k8] at this; exact this
theorem o5 : K5.ok 13 := by have := o4.sync [120]; rw [k9] at this; exact this
end Go.Proofs.Ythnbnhlfiehihaa

