/- Stamps: the greatest of some. -/
import Derived.Test.YthpooogjlmaemaaStamp
namespace Go.Proofs.Ythpooogjlmaemaa
open Go.RowKit Go.Proofs.Ythpooogjlmaemaa.Pl

def S3.cells (s : S3) : List Value := [.int .i64 s.p, .int .i64 s.l, .int .i64 s.r]
def sv (ls : List S3) : List Value := ls.flatMap S3.cells
theorem sv_get : ∀ (ls : List S3) (k j : Nat) (s : S3), ls[k]? = some s → j < 3 → (sv ls)[k * 3 + j]? = s.cells[j]?
  | [], k, j, s, h, _ => by simp at h
  | x :: ls, 0, j, s, h, hj => by
    simp at h; subst h
    show (x.cells ++ sv ls)[0 * 3 + j]? = _
    rw [List.getElem?_append_left (by simp [S3.cells]; omega)]; congr 1; omega
  | x :: ls, k + 1, j, s, h, hj => by
    show (x.cells ++ sv ls)[(k + 1) * 3 + j]? = _
    rw [List.getElem?_append_right (by simp [S3.cells]; omega), show (k + 1) * 3 + j - x.cells.length = k * 3 + j by simp [S3.cells]; omega]
    exact sv_get ls k j s (by simpa using h) hj
theorem sv_len (ls : List S3) : (sv ls).length = ls.length * 3 := by
  induction ls with
  | nil => rfl
  | cons x t ih => simp [sv, S3.cells] at *; omega
theorem stampAt {w : World} {B : Nat} {A : Option Addr} {ls : List S3} (h : Sl w B A (sv ls)) {k : Nat} (hk : k < ls.length) :
    ∃ b o, A = some ⟨b, o, none⟩ ∧ b < B ∧ b < w.heap.size ∧ w.cell? ⟨b, o + k * 3, none⟩ = some (.int .i64 (ls[k]?.getD ⟨0, 0, 0⟩).p) ∧ w.cell? ⟨b, o + k * 3 + 1, none⟩ = some (.int .i64 (ls[k]?.getD ⟨0, 0, 0⟩).l) ∧ w.cell? ⟨b, o + k * 3 + 2, none⟩ = some (.int .i64 (ls[k]?.getD ⟨0, 0, 0⟩).r) := by
  obtain ⟨b, o, e, h1, h2, hc⟩ := h.at_ (k := k * 3) (by rw [sv_len]; omega)
  have hs : ls[k]? = some (ls[k]'hk) := List.getElem?_eq_getElem hk
  rw [hs]
  exact ⟨b, o, e, h1, h2, hc (k * 3 + 0) _ (sv_get ls k 0 _ hs (by omega)), hc (k * 3 + 1) _ (sv_get ls k 1 _ hs (by omega)), hc (k * 3 + 2) _ (sv_get ls k 2 _ hs (by omega))⟩
def mxF (m : Option S3) (s : S3) : Option S3 := match m with
  | none => some s
  | some m => some (if m.lt s = true then s else m)
def mxS (ls : List S3) : S3 := (ls.foldl mxF none).getD ⟨0, 0, 0⟩
theorem mx_succ (ls : List S3) (k : Nat) (hk : k < ls.length) : mxS (ls.take (k + 1)) = if k = 0 then ls[k]?.getD ⟨0, 0, 0⟩ else if (mxS (ls.take k)).lt (ls[k]?.getD ⟨0, 0, 0⟩) = true then ls[k]?.getD ⟨0, 0, 0⟩ else mxS (ls.take k) := by
  have hs : ls[k]? = some (ls[k]'hk) := List.getElem?_eq_getElem hk
  rw [hs, List.take_succ_eq_append_getElem hk]
  unfold mxS
  rw [List.foldl_append]
  have hne : k ≠ 0 → ∃ m, (ls.take k).foldl mxF none = some m := by
    intro h0
    have : ∀ (l : List S3) (m : S3), ∃ m', l.foldl mxF (some m) = some m' := by
      intro l
      induction l with
      | nil => exact fun m => ⟨m, rfl⟩
      | cons x t ih => exact fun m => ih _
    match ls, k, h0, hk with
    | x :: t, k + 1, _, _ => exact this _ _
  by_cases h0 : k = 0
  · subst h0; simp [mxF]
  · obtain ⟨m, hm⟩ := hne h0
    rw [hm, if_neg h0]
    simp [mxF]
def MaxRel (w : World) (ls : List S3) (x8 : Value) (wr : World) : Prop := ∃ k : Nat, k ≤ ls.length ∧ x8 = .int .i64 (k : Int) ∧ Below w.heap.size w wr ∧ Stands wr w.heap.size ⟨0, 0, 0⟩ ∧ Stands wr (w.heap.size + 1) (mxS (ls.take k))
set_option maxRecDepth 100000 in
set_option maxHeartbeats 1600000 in
theorem Max_any (w : World) (A : Option Addr) (n c : Nat) (ls : List S3) (hb : Sl w w.heap.size A (sv ls)) (h0 : n = ls.length) (hm : n ≤ 9223372036854775807) :
    Calls Try.prog 20 #[.slice A n c] w fun e w' => e = .returned (mxS ls).v ∧ Below w.heap.size w w' := by
  subst h0
  go_enter Try.func20, Try.ntmps20
  go_wp2_with fail
  go_loopw [8] (fun x8 wr => MaxRel w ls x8 wr) (fun x8 _ => ls.length - (intOf x8).toNat)
  case atStart =>
    refine ⟨0, Nat.zero_le _, rfl, (((Below.refl _ _).alloc (Nat.le_refl _) _).alloc (by simp) _), (Stands.new w 23 ⟨0, 0, 0⟩).alloc _, ?_⟩
    have := Stands.new (w.alloc (.cells #[.int .i64 0, .int .i64 0, .int .i64 0] 23)) 23 ⟨0, 0, 0⟩
    simpa [mxS] using this
  case round =>
    obtain ⟨k, hk, rfl, hbel, hst0, hst⟩ := hrel
    by_cases hlt : k < ls.length
    · obtain ⟨b, o, rfl, hbB, hbW, hc0, hc1, hc2⟩ := stampAt (hb.below hbel) hlt
      have hsucc := Lib.hid (mx_succ ls k hlt)
      generalize ls[k]?.getD ⟨0, 0, 0⟩ = s at *
      generalize mxS (ls.take k) = m at *
      by_cases hk0 : k = 0
      · subst hk0
        simp only [Nat.zero_mul, Nat.add_zero] at hc0 hc1 hc2
        have hstA := hst.alloc (.cells #[.int .i64 s.p, .int .i64 s.l, .int .i64 s.r] 23)
        have hst0A := hst0.alloc (.cells #[.int .i64 s.p, .int .i64 s.l, .int .i64 s.r] 23)
        have hbA := hbel.alloc hbel.size (.cells #[.int .i64 s.p, .int .i64 s.l, .int .i64 s.r] 23)
        have hput := hstA.put s
        have hput0 := hst0A.put_other (g' := w.heap.size + 1) s (by omega)
        have hbp := below_put3 hbA (g := w.heap.size + 1) (by omega) s
        obtain ⟨_, f0, f1, f2, z0, z1, z2⟩ := hstA
        go_wp2_with fail
        go_roundw
        case rel => exact ⟨1, by omega, by go_num, hbp, hput0, by rw [hsucc.out]; exact hput⟩
        case measure => simp [intOf]; omega
      · have hkz : ((k : Int) == 0) = false := by simp; omega
        have hstA := hst.alloc (.cells #[.int .i64 s.p, .int .i64 s.l, .int .i64 s.r] 23)
        have hst0A := hst0.alloc (.cells #[.int .i64 s.p, .int .i64 s.l, .int .i64 s.r] 23)
        have hstN := Stands.new wr 23 s
        have hbA := hbel.alloc hbel.size (.cells #[.int .i64 s.p, .int .i64 s.l, .int .i64 s.r] 23)
        have HA := Lib.hid hstA
        have HN := Lib.hid hstN
        obtain ⟨_, f0, f1, f2, z0, z1, z2⟩ := hstA
        obtain ⟨_, n0, n1, n2, _, _, _⟩ := hstN
        go_wp2_with fail
        refine (Less_any _ m s).mono ?_
        rintro e w5 ⟨rfl, hb5⟩
        have hst5 := HA.out.below hb5
        have hst05 := hst0A.below hb5
        have hn5 := HN.out.below hb5
        have hb5' := hbA.trans (hb5.mono hbA.size)
        clear f0 f1 f2 z0 z1 z2 n0 n1 n2
        by_cases hls : m.lt s = true
        · have hput := hst5.put s
          have hput0 := hst05.put_other (g' := w.heap.size + 1) s (by omega)
          have hbp := below_put3 hb5' (g := w.heap.size + 1) (by omega) s
          obtain ⟨_, f0, f1, f2, z0, z1, z2⟩ := hst5
          obtain ⟨_, n0, n1, n2, _, _, _⟩ := hn5
          go_wp2_with fail
          go_roundw
          case rel => exact ⟨k + 1, hlt, by go_num, hbp, hput0, by rw [hsucc.out, if_neg hk0, if_pos hls]; exact hput⟩
          case measure => simp [intOf]; omega
        · have hls' : m.lt s = false := by simpa using hls
          go_wp2_with fail
          go_roundw
          case rel => exact ⟨k + 1, hlt, by go_num, hb5', hst05, by rw [hsucc.out, if_neg hk0, if_neg hls]; exact hst5⟩
          case measure => simp [intOf]; omega
    · rw [List.take_of_length_le (by omega)] at hst
      obtain ⟨m, hm'⟩ : ∃ m, mxS ls = m := ⟨_, rfl⟩
      rw [hm'] at hst
      have Hm := Lib.hid hm'
      clear hm'
      have hput := hst0.put m
      have hbp := below_put3 hbel (g := w.heap.size) (by omega) m
      obtain ⟨_, f0, f1, f2, z0, z1, z2⟩ := hst
      obtain ⟨_, g0, g1, g2, y0, y1, y2⟩ := hst0
      go_wp2_with fail
      obtain ⟨_, p0, p1, p2, _, _, _⟩ := hput
      unfold put3 at p0 p1 p2
      exact bodyPost_ret (v := .agg #[.int .i64 m.p, .int .i64 m.l, .int .i64 m.r]) (by simp [results, Try.results20, go_sem, p0, p1, p2]) rfl ⟨by rw [Hm.out]; rfl, hbp⟩
set_option maxRecDepth 100000 in
set_option maxHeartbeats 1600000 in
theorem RefMax_any (w : World) (A : Option Addr) (n c : Nat) (ls : List S3) (hb : Sl w w.heap.size A (sv ls)) (h0 : n = ls.length) (hm : n ≤ 9223372036854775807) :
    Calls Try.prog 21 #[.slice A n c] w fun e w' => e = .returned (mxS ls).v ∧ Below w.heap.size w w' := by
  subst h0
  go_enter Try.func21, Try.ntmps21
  go_wp2_with fail
  go_loopw [4] (fun x8 wr => MaxRel w ls x8 wr) (fun x8 _ => ls.length - (intOf x8).toNat)
  case atStart =>
    refine ⟨0, Nat.zero_le _, rfl, (((Below.refl _ _).alloc (Nat.le_refl _) _).alloc (by simp) _), (Stands.new w 23 ⟨0, 0, 0⟩).alloc _, ?_⟩
    have := Stands.new (w.alloc (.cells #[.int .i64 0, .int .i64 0, .int .i64 0] 23)) 23 ⟨0, 0, 0⟩
    simpa [mxS] using this
  case round =>
    obtain ⟨k, hk, rfl, hbel, hst0, hst⟩ := hrel
    by_cases hlt : k < ls.length
    · obtain ⟨b, o, rfl, hbB, hbW, hc0, hc1, hc2⟩ := stampAt (hb.below hbel) hlt
      have hsucc := Lib.hid (mx_succ ls k hlt)
      generalize ls[k]?.getD ⟨0, 0, 0⟩ = s at *
      generalize mxS (ls.take k) = m at *
      have hput := (hst.below (Below.refl _ wr).drew).put s
      have hput0 := (hst0.below (Below.refl _ wr).drew).put_other (g' := w.heap.size + 1) s (by omega)
      have hbp := below_put3 hbel.drew (g := w.heap.size + 1) (by omega) s
      by_cases hk0 : k = 0
      · subst hk0
        simp only [Nat.zero_mul, Nat.add_zero] at hc0 hc1 hc2
        have hz0 : (((0 : Nat) : Int) == 0) = true := by simp
        have HST := Lib.hid hst
        obtain ⟨_, f0, f1, f2, z0, z1, z2⟩ := hst
        go_wp2_with fail
        refine bstart (by kernel_rfl) ?_
        refine btake 0 (oi := _) (v := ?_) (by simp only [List.getElem?_toArray, List.getElem?_cons_zero]; rfl) (by kernel_rfl) (by exact fun _ _ _ h => h) (by first | assumption | exact KB.refl _) (.inl ⟨by rfl, fun W hW => ?_⟩) ?_; rotate_left
        · (go_simp; first | done | with_reducible rfl)
        try simp only [Act.put, List.setIfInBounds_toArray, List.set_cons_zero, List.set_cons_succ]
        refine btake 1 (oi := _) (v := ?_) (by simp only [List.getElem?_toArray, List.getElem?_cons_succ, List.getElem?_cons_zero]; rfl) (by kernel_rfl) (by exact fun _ _ _ h => h) (by first | assumption | exact KB.refl _) (.inl ⟨by rfl, fun W hW => ?_⟩) ?_; rotate_left
        · (go_simp; first | done | with_reducible rfl)
        try simp only [Act.put, List.setIfInBounds_toArray, List.set_cons_zero, List.set_cons_succ]
        refine btake 2 (oi := _) (v := ?_) (by simp only [List.getElem?_toArray, List.getElem?_cons_succ, List.getElem?_cons_zero]; rfl) (by kernel_rfl) (by exact fun _ _ _ h => h) (by first | assumption | exact KB.refl _) (.inl ⟨by rfl, fun W hW => ?_⟩) ?_; rotate_left
        · (go_simp; first | done | with_reducible rfl)
        try simp only [Act.put, List.setIfInBounds_toArray, List.set_cons_zero, List.set_cons_succ]
        refine btake 3 (oi := _) (v := undef) (by simp only [List.getElem?_toArray, List.getElem?_cons_succ, List.getElem?_cons_zero]; rfl) (by kernel_rfl) (by exact fun _ _ _ h => h) (by first | assumption | exact KB.refl _) (.inr ⟨by rfl, rfl⟩) ?_
        try simp only [Act.put, List.setIfInBounds_toArray, List.set_cons_zero, List.set_cons_succ]
        refine btake 4 (oi := _) (v := undef) (by simp only [List.getElem?_toArray, List.getElem?_cons_succ, List.getElem?_cons_zero]; rfl) (by kernel_rfl) (by exact fun _ _ _ h => h) (by first | assumption | exact KB.refl _) (.inr ⟨by rfl, rfl⟩) ?_
        try simp only [Act.put, List.setIfInBounds_toArray, List.set_cons_zero, List.set_cons_succ]
        refine btake 5 (oi := _) (v := undef) (by simp only [List.getElem?_toArray, List.getElem?_cons_succ, List.getElem?_cons_zero]; rfl) (by kernel_rfl) (by exact fun _ _ _ h => h) (by first | assumption | exact KB.refl _) (.inr ⟨by rfl, rfl⟩) ?_
        try simp only [Act.put, List.setIfInBounds_toArray, List.set_cons_zero, List.set_cons_succ]
        refine btake 6 (oi := _) (v := undef) (by simp only [List.getElem?_toArray, List.getElem?_cons_succ, List.getElem?_cons_zero]; rfl) (by kernel_rfl) (by exact fun _ _ _ h => h) (by first | assumption | exact KB.refl _) (.inr ⟨by rfl, rfl⟩) ?_
        try simp only [Act.put, List.setIfInBounds_toArray, List.set_cons_zero, List.set_cons_succ]
        refine btake 7 (oi := _) (v := undef) (by simp only [List.getElem?_toArray, List.getElem?_cons_succ, List.getElem?_cons_zero]; rfl) (by kernel_rfl) (by exact fun _ _ _ h => h) (by first | assumption | exact KB.refl _) (.inr ⟨by rfl, rfl⟩) ?_
        try simp only [Act.put, List.setIfInBounds_toArray, List.set_cons_zero, List.set_cons_succ]
        refine btake 8 (oi := _) (v := undef) (by simp only [List.getElem?_toArray, List.getElem?_cons_succ, List.getElem?_cons_zero]; rfl) (by kernel_rfl) (by exact fun _ _ _ h => h) (by first | assumption | exact KB.refl _) (.inr ⟨by rfl, rfl⟩) ?_
        try simp only [Act.put, List.setIfInBounds_toArray, List.set_cons_zero, List.set_cons_succ]
        refine btake 9 (oi := _) (v := ?_) (by simp only [List.getElem?_toArray, List.getElem?_cons_succ, List.getElem?_cons_zero]; rfl) (by kernel_rfl) (by exact fun _ _ _ h => h) (by first | assumption | exact KB.refl _) (.inl ⟨by rfl, fun W hW => ?_⟩) ?_; rotate_left
        · (go_simp; first | done | with_reducible rfl)
        try simp only [Act.put, List.setIfInBounds_toArray, List.set_cons_zero, List.set_cons_succ]
        refine bdone (by kernel_rfl) ?_
        go_wp2_with fail
        go_roundw
        case rel => exact ⟨1, by omega, by go_num, hbp, hput0, by rw [hsucc.out]; exact hput⟩
        case measure => simp [intOf]; omega
      · have hkz : ((k : Int) == 0) = false := by simp; omega
        have HST := Lib.hid hst
        obtain ⟨_, f0, f1, f2, z0, z1, z2⟩ := hst
        have e0 := cellB f0
        have e1 := cellB f1
        have e2 := cellB f2
        have e3 := cellB hc0
        have e4 := cellB hc1
        have e5 := cellB hc2
        have hc0' := hc0
        clear f0 f1 f2 hput hput0 hbp
        go_wp2_with fail
        refine bstart (by kernel_rfl) ?_
        refine btake 0 (oi := _) (v := ?_) (by simp only [List.getElem?_toArray, List.getElem?_cons_zero]; rfl) (by kernel_rfl) (by exact fun _ _ _ h => h) (by first | assumption | exact KB.refl _) (.inl ⟨by rfl, fun W hW => ?_⟩) ?_; rotate_left
        · (go_simp; first | done | with_reducible rfl)
        try simp only [Act.put, List.setIfInBounds_toArray, List.set_cons_zero, List.set_cons_succ]
        refine btake 1 (oi := _) (v := ?_) (by simp only [List.getElem?_toArray, List.getElem?_cons_succ, List.getElem?_cons_zero]; rfl) (by kernel_rfl) (by exact fun _ _ _ h => h) (by first | assumption | exact KB.refl _) (.inl ⟨by rfl, fun W hW => ?_⟩) ?_; rotate_left
        · (go_simp; first | done | with_reducible rfl)
        try simp only [Act.put, List.setIfInBounds_toArray, List.set_cons_zero, List.set_cons_succ]
        refine btake 2 (oi := _) (v := ?_) (by simp only [List.getElem?_toArray, List.getElem?_cons_succ, List.getElem?_cons_zero]; rfl) (by kernel_rfl) (by exact fun _ _ _ h => h) (by first | assumption | exact KB.refl _) (.inl ⟨by rfl, fun W hW => ?_⟩) ?_; rotate_left
        · (go_simp; first | done | with_reducible rfl)
        try simp only [Act.put, List.setIfInBounds_toArray, List.set_cons_zero, List.set_cons_succ]
        refine btake 3 (oi := _) (v := ?_) (by simp only [List.getElem?_toArray, List.getElem?_cons_succ, List.getElem?_cons_zero]; rfl) (by kernel_rfl) (by exact fun _ _ _ h => h) (by first | assumption | exact KB.refl _) (.inl ⟨by rfl, fun W hW => ?_⟩) ?_; rotate_left
        · (go_simp; first | done | with_reducible rfl)
        try simp only [Act.put, List.setIfInBounds_toArray, List.set_cons_zero, List.set_cons_succ]
        refine btake 4 (oi := _) (v := ?_) (by simp only [List.getElem?_toArray, List.getElem?_cons_succ, List.getElem?_cons_zero]; rfl) (by kernel_rfl) (by exact fun _ _ _ h => h) (by first | assumption | exact KB.refl _) (.inl ⟨by rfl, fun W hW => ?_⟩) ?_; rotate_left
        · (go_simp; first | done | with_reducible rfl)
        try simp only [Act.put, List.setIfInBounds_toArray, List.set_cons_zero, List.set_cons_succ]
        refine btake 5 (oi := _) (v := ?_) (by simp only [List.getElem?_toArray, List.getElem?_cons_succ, List.getElem?_cons_zero]; rfl) (by kernel_rfl) (by exact fun _ _ _ h => h) (by first | assumption | exact KB.refl _) (.inl ⟨by rfl, fun W hW => ?_⟩) ?_; rotate_left
        · (go_simp; first | done | with_reducible rfl)
        try simp only [Act.put, List.setIfInBounds_toArray, List.set_cons_zero, List.set_cons_succ]
        refine btake 6 (oi := _) (v := ?_) (by simp only [List.getElem?_toArray, List.getElem?_cons_succ, List.getElem?_cons_zero]; rfl) (by kernel_rfl) (by exact fun _ _ _ h => h) (by first | assumption | exact KB.refl _) (.inl ⟨by rfl, fun W hW => ?_⟩) ?_; rotate_left
        · (go_simp; first | done | with_reducible rfl)
        try simp only [Act.put, List.setIfInBounds_toArray, List.set_cons_zero, List.set_cons_succ]
        refine btake 7 (oi := _) (v := ?_) (by simp only [List.getElem?_toArray, List.getElem?_cons_succ, List.getElem?_cons_zero]; rfl) (by kernel_rfl) (by exact fun _ _ _ h => h) (by first | assumption | exact KB.refl _) (.inl ⟨by rfl, fun W hW => ?_⟩) ?_; rotate_left
        · (go_simp; first | done | with_reducible rfl)
        try simp only [Act.put, List.setIfInBounds_toArray, List.set_cons_zero, List.set_cons_succ]
        -- 8: newsreel/newsreelref1.StampLess
        refine bop 8 (o := _) (by simp only [List.getElem?_toArray, List.getElem?_cons_succ, List.getElem?_cons_zero]; rfl) (by kernel_rfl) (by first | assumption | exact KB.refl _) (by rfl) (fun K hK => ?_)
        go_simp
        refine (RefLess_any _ m s).mono ?_
        rintro e w5 ⟨rfl, hb5⟩
        have hkb := KB.of hb5
        refine hK.out _ _ hkb ?_; clear hK K
        try simp only [Act.put, List.setIfInBounds_toArray, List.set_cons_zero, List.set_cons_succ]
        refine btake 9 (oi := _) (v := ?_) (by simp only [List.getElem?_toArray, List.getElem?_cons_succ, List.getElem?_cons_zero]; rfl) (by kernel_rfl) (by exact fun _ _ _ h => h) (by first | assumption | exact KB.refl _) (.inl ⟨by rfl, fun W hW => ?_⟩) ?_; rotate_left
        · (go_simp; first | done | with_reducible rfl)
        try simp only [Act.put, List.setIfInBounds_toArray, List.set_cons_zero, List.set_cons_succ]
        refine bdone (by kernel_rfl) ?_
        have hb5' : Below wr.heap.size wr w5 := (Below.refl wr.heap.size wr).drew.trans hb5
        have hst5 := HST.out.below hb5'
        have hst05 := hst0.below hb5'
        have hbel5 := hbel.trans (hb5'.mono hbel.size)
        have c0 := (hb5'.cell (p := ⟨b, o + k * 3, none⟩) hbW).trans hc0
        have c1 := (hb5'.cell (p := ⟨b, o + k * 3 + 1, none⟩) hbW).trans hc1
        have c2 := (hb5'.cell (p := ⟨b, o + k * 3 + 2, none⟩) hbW).trans hc2
        clear e0 e1 e2 e3 e4 e5 hc0 hc1 hc2 hc0' z0 z1 z2 hkb
        by_cases hls : m.lt s = true
        · have hput := hst5.put s
          have hput0 := hst05.put_other (g' := w.heap.size + 1) s (by omega)
          have hbp := below_put3 hbel5 (g := w.heap.size + 1) (by omega) s
          obtain ⟨_, f0, f1, f2, z0, z1, z2⟩ := hst5
          go_wp2_with fail
          all_goals first | (exact absurd (‹m.lt s = false›) (by rw [hls]; simp)) | skip
          go_roundw
          case rel => exact ⟨k + 1, hlt, by go_num, hbp, hput0, by rw [hsucc.out, if_neg hk0, if_pos hls]; exact hput⟩
          case measure => simp [intOf]; omega
        · have hls' : m.lt s = false := by simpa using hls
          go_wp2_with fail
          go_roundw
          case rel => exact ⟨k + 1, hlt, by go_num, hbel5, hst05, by rw [hsucc.out, if_neg hk0, if_neg hls]; exact hst5⟩
          case measure => simp [intOf]; omega
    · rw [List.take_of_length_le (by omega)] at hst
      obtain ⟨m, hm'⟩ : ∃ m, mxS ls = m := ⟨_, rfl⟩
      rw [hm'] at hst
      have Hm := Lib.hid hm'
      clear hm'
      have hput := hst0.put m
      have hbp := below_put3 hbel (g := w.heap.size) (by omega) m
      obtain ⟨_, f0, f1, f2, z0, z1, z2⟩ := hst
      obtain ⟨_, g0, g1, g2, y0, y1, y2⟩ := hst0
      go_wp2_with fail
      obtain ⟨_, p0, p1, p2, _, _, _⟩ := hput
      unfold put3 at p0 p1 p2
      exact bodyPost_ret (v := .agg #[.int .i64 m.p, .int .i64 m.l, .int .i64 m.r]) (by simp [results, Try.results21, go_sem, p0, p1, p2]) rfl ⟨by rw [Hm.out]; rfl, hbp⟩
end Go.Proofs.Ythpooogjlmaemaa

