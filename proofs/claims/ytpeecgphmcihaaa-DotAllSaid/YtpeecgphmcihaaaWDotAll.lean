/- DotAll, walked: which dots stand at the beginning of any bytes. -/
import Derived.Test.YtpeecgphmcihaaaDotK
import Derived.Test.YtpeecgphmcihaaaDotO
import Derived.Test.YtpeecgphmcihaaaXU16
import Derived.Test.YtpeecgphmcihaaaU1
import Derived.Test.YtpeecgphmcihaaaMat
import Derived.Test.YtpeecgphmcihaaaCrcC
namespace Go.Proofs.Ytpeecgphmcihaaa
open Go.RowKit Go.Proofs.Ytpeecgphmcihaaa.Pl Go.Proofs.Ytpeecgphmcihaaa.Dt

theorem goA_bad (b : List UInt8) : ∀ (n : Nat) (out : List D2) (k : Nat), (goA b n out k).2.2 ≠ 0 → (goA b n out k).1 = []
  | 0, out, k, h => absurd rfl h
  | n + 1, out, k, h => by
    unfold goA at h ⊢
    split
    · rfl
    · rename_i h1
      rw [if_neg h1] at h
      split
      · rfl
      · rename_i h2
        rw [if_neg h2] at h
        exact goA_bad b n _ _ h
theorem takeDs_len (b : List UInt8) : (takeDs b).1.length ≤ 16 := by
  by_cases h : (takeDs b).2.2 = 0
  · obtain ⟨h1, h2, h3⟩ := takeDs_ok h
    refine (putDs_some (l := (takeDs b).1) (fun e => ?_)).1
    rw [h3] at e
    have := congrArg List.length e
    rw [List.length_take, List.length_nil] at this
    omega
  · have : (takeDs b).1 = [] := by
      unfold takeDs at h ⊢
      split
      · rfl
      · rename_i h1
        rw [if_neg h1] at h
        split
        · rfl
        · rename_i h2
          rw [if_neg h2] at h
          exact goA_bad b _ _ _ h
    rw [this]
    simp
set_option maxRecDepth 100000 in
set_option maxHeartbeats 12800000 in
theorem DotAll_walk (w : World) (A : Option Addr) (c : Nat) (l : List UInt8) (hl : Sl w w.heap.size A (bv l)) (hc : l.length ≤ c) (hcm : c ≤ 140737488351232) (A1 : Option Addr) (c1 : Nat) (x : List Nat) (hx : Sl w w.heap.size A1 (wv x)) (_ : x.length ≤ c1) (_ : c1 * 2 ≤ 140737488351232) (hxl : ∀ n ∈ x, n < 65536)
    (at' : Int) (ha : -9223372036854775808 ≤ at' ∧ at' ≤ 9223372036854775807) (by' : Nat) (hby : by' < 256) (how : Nat) (hhow : how < 256) :
    Calls Try.prog 7 #[.slice A l.length c, .slice A1 x.length c1, .int .i64 at', .int .u8 (by' : Int), .int .u8 (how : Int)] w fun e w' => e = .returned (.bool true) ∧ Below w.heap.size w w' := by
  have HK := Lib.hid (fun W => dknown_any W)
  by_cases h2 : x.length ≤ 20
  · have hd2 : decide ((20 : Int) < (x.length : Int)) = false := by rw [decide_eq_false_iff_not]; omega
    go_enter Try.func7, Try.ntmps7
    go_wp2_with fail
    refine (HK.out _).mono ?_
    rintro e w1 ⟨rfl, hw1⟩
    go_wp2_with fail
    go_loopw [11, 12] (fun x11 x12 wr => ∃ (i : Nat) (L : List UInt8), i ≤ x.length ∧ x12 = .int .i64 (i : Int) ∧ OwnB wr w.heap.size x11 L ∧ L.length ≤ 11 * i ∧ Below w.heap.size w wr) (fun _ x12 _ => x.length - (intOf x12).toNat)
    case atStart => exact ⟨0, [], by omega, rfl, OwnB.nil _ _, by simp, hw1⟩
    case round =>
      clear hw1
      obtain ⟨i, L, hi, rfl, hown, hLl, hbel⟩ := hrel
      by_cases hlt : i < x.length
      · obtain ⟨b, o, rfl, hb, f0⟩ := u16At hx hlt
        have e0 := cellB f0
        have hv := u16_lt hxl i
        generalize x[i]?.getD 0 = v at *
        have hd3 : decide ((i : Int) < (x.length : Int)) = true := by rw [decide_eq_true_eq]; omega
        have hi0 : (0 : Int) ≤ (i : Int) := by omega
        have hi1 : (i : Int) < (x.length : Int) := by omega
        have hS0 : KB w.heap wr.drew := KB.of hbel.drew
        have ha66 : v % 66 < 256 := by omega
        have hw1 : IntKind.u8.wrap ((v : Int).tmod 66) = ((v % 66 : Nat) : Int) := by
          show IntKind.u8.wrap ((v % 66 : Nat) : Int) = _
          rw [IntKind.wrap_u8]; omega
        have hw2 : IntKind.u16.wrap ((v : Int) / 66) = ((v / 66 : Nat) : Int) := by rw [IntKind.wrap_u16]; omega
        have hp : v / 66 ≤ 65536 := by omega
        generalize v % 66 = a at *
        generalize v / 66 = q at *
        have hw3 : IntKind.u64.wrap (q : Int) = (q : Int) := by rw [IntKind.wrap_u64]; omega
        have HU := Lib.hid (show ∀ z ∈ [q], U64 z by intro z hz; rw [List.mem_singleton] at hz; subst hz; unfold U64; omega)
        have HE := Lib.hid (enc_len q)
        have hB : Below w.heap.size w wr.drew := hbel.drew
        have hown : OwnB wr.drew w.heap.size _ L := hown
        clear hp hv
        go_wp2_with fail
        have hmark : True := trivial
        refine bstartH (w.heap) (by kernel_rfl) ?_
        refine btake 0 (oi := _) (v := ?_) (by simp only [List.getElem?_toArray, List.getElem?_cons_zero]; rfl) (by kernel_rfl) (by exact fun _ _ _ h => h) (by first | assumption | exact KB.refl _ | exact kb0 _) (.inl ⟨by rfl, fun W hW => ?_⟩) ?_; rotate_left
        · (go_simp; first | done | with_reducible rfl)
        try simp only [Act.put, List.setIfInBounds_toArray, List.set_cons_zero, List.set_cons_succ]
        refine btake 1 (oi := _) (v := ?_) (by simp only [List.getElem?_toArray, List.getElem?_cons_succ, List.getElem?_cons_zero]; rfl) (by kernel_rfl) (by exact fun _ _ _ h => h) (by first | assumption | exact KB.refl _ | exact kb0 _) (.inl ⟨by rfl, fun W hW => ?_⟩) ?_; rotate_left
        · (go_simp; first | done | with_reducible rfl)
        try simp only [Act.put, List.setIfInBounds_toArray, List.set_cons_zero, List.set_cons_succ]
        refine btake 2 (oi := _) (v := ?_) (by simp only [List.getElem?_toArray, List.getElem?_cons_succ, List.getElem?_cons_zero]; rfl) (by kernel_rfl) (by exact fun _ _ _ h => h) (by first | assumption | exact KB.refl _ | exact kb0 _) (.inl ⟨by rfl, fun W hW => ?_⟩) ?_; rotate_left
        · (go_simp; first | done | with_reducible rfl)
        try simp only [Act.put, List.setIfInBounds_toArray, List.set_cons_zero, List.set_cons_succ]
        refine btake 3 (oi := _) (v := ?_) (by simp only [List.getElem?_toArray, List.getElem?_cons_succ, List.getElem?_cons_zero]; rfl) (by kernel_rfl) (by exact fun _ _ _ h => h) (by first | assumption | exact KB.refl _ | exact kb0 _) (.inl ⟨by rfl, fun W hW => ?_⟩) ?_; rotate_left
        · (go_simp; first | done | with_reducible rfl)
        try simp only [Act.put, List.setIfInBounds_toArray, List.set_cons_zero, List.set_cons_succ]
        refine btake 4 (oi := _) (v := ?_) (by simp only [List.getElem?_toArray, List.getElem?_cons_succ, List.getElem?_cons_zero]; rfl) (by kernel_rfl) (by exact fun _ _ _ h => h) (by first | assumption | exact KB.refl _ | exact kb0 _) (.inl ⟨by rfl, fun W hW => ?_⟩) ?_; rotate_left
        · (go_simp; first | done | with_reducible rfl)
        try simp only [Act.put, List.setIfInBounds_toArray, List.set_cons_zero, List.set_cons_succ]
        refine btake 5 (oi := _) (v := ?_) (by simp only [List.getElem?_toArray, List.getElem?_cons_succ, List.getElem?_cons_zero]; rfl) (by kernel_rfl) (by exact fun _ _ _ h => h) (by first | assumption | exact KB.refl _ | exact kb0 _) (.inl ⟨by rfl, fun W hW => ?_⟩) ?_; rotate_left
        · (go_simp; first | done | with_reducible rfl)
        try simp only [Act.put, List.setIfInBounds_toArray, List.set_cons_zero, List.set_cons_succ]
        refine btake 6 (oi := _) (v := ?_) (by simp only [List.getElem?_toArray, List.getElem?_cons_succ, List.getElem?_cons_zero]; rfl) (by kernel_rfl) (by exact fun _ _ _ h => h) (by first | assumption | exact KB.refl _ | exact kb0 _) (.inl ⟨by rfl, fun W hW => ?_⟩) ?_; rotate_left
        · (go_simp; first | done | with_reducible rfl)
        try simp only [Act.put, List.setIfInBounds_toArray, List.set_cons_zero, List.set_cons_succ]
        refine btake 9 (oi := _) (v := ?_) (by simp only [List.getElem?_toArray, List.getElem?_cons_succ, List.getElem?_cons_zero]; rfl) (by kernel_rfl) (by exact fun _ _ _ h => h) (by first | assumption | exact KB.refl _ | exact kb0 _) (.inl ⟨by rfl, fun W hW => ?_⟩) ?_; rotate_left
        · (go_simp; first | done | with_reducible rfl)
        try simp only [Act.put, List.setIfInBounds_toArray, List.set_cons_zero, List.set_cons_succ]
        refine btake 10 (oi := _) (v := ?_) (by simp only [List.getElem?_toArray, List.getElem?_cons_succ, List.getElem?_cons_zero]; rfl) (by kernel_rfl) (by exact fun _ _ _ h => h) (by first | assumption | exact KB.refl _ | exact kb0 _) (.inl ⟨by rfl, fun W hW => ?_⟩) ?_; rotate_left
        · (go_simp; first | done | with_reducible rfl)
        try simp only [Act.put, List.setIfInBounds_toArray, List.set_cons_zero, List.set_cons_succ]
        refine btake 11 (oi := _) (v := ?_) (by simp only [List.getElem?_toArray, List.getElem?_cons_succ, List.getElem?_cons_zero]; rfl) (by kernel_rfl) (by exact fun _ _ _ h => h) (by first | assumption | exact KB.refl _ | exact kb0 _) (.inl ⟨by rfl, fun W hW => ?_⟩) ?_; rotate_left
        · (go_simp; first | done | with_reducible rfl)
        try simp only [Act.put, List.setIfInBounds_toArray, List.set_cons_zero, List.set_cons_succ]
        refine btake 12 (oi := _) (v := ?_) (by simp only [List.getElem?_toArray, List.getElem?_cons_succ, List.getElem?_cons_zero]; rfl) (by kernel_rfl) (by exact fun _ _ _ h => h) (by first | assumption | exact KB.refl _ | exact kb0 _) (.inl ⟨by rfl, fun W hW => ?_⟩) ?_; rotate_left
        · (go_simp; first | done | with_reducible rfl)
        try simp only [Act.put, List.setIfInBounds_toArray, List.set_cons_zero, List.set_cons_succ]
        refine btake 13 (oi := _) (v := ?_) (by simp only [List.getElem?_toArray, List.getElem?_cons_succ, List.getElem?_cons_zero]; rfl) (by kernel_rfl) (by exact fun _ _ _ h => h) (by first | assumption | exact KB.refl _ | exact kb0 _) (.inl ⟨by rfl, fun W hW => ?_⟩) ?_; rotate_left
        · (go_simp; first | done | with_reducible rfl)
        try simp only [Act.put, List.setIfInBounds_toArray, List.set_cons_zero, List.set_cons_succ]
        refine btake 14 (oi := _) (v := ?_) (by simp only [List.getElem?_toArray, List.getElem?_cons_succ, List.getElem?_cons_zero]; rfl) (by kernel_rfl) (by exact fun _ _ _ h => h) (by first | assumption | exact KB.refl _ | exact kb0 _) (.inl ⟨by rfl, fun W hW => ?_⟩) ?_; rotate_left
        · (go_simp; first | done | with_reducible rfl)
        try simp only [Act.put, List.setIfInBounds_toArray, List.set_cons_zero, List.set_cons_succ]
        refine bopH2 7 15 (oi := _) (oj := _) (by simp only [List.getElem?_toArray, List.getElem?_cons_succ, List.getElem?_cons_zero]; rfl) (by simp only [List.getElem?_toArray, List.getElem?_cons_succ, List.getElem?_cons_zero]; rfl) (by kernel_rfl) (by first | assumption | exact KB.refl _ | exact kb0 _) (by rfl) (by rfl) (fun K hK => ?_) (fun K hK => ?_)
        · -- 7: Op.buildSlice 34 1 #[(0, Operand.tmp 38)]
          try (clear hmark; generalize wr.drew = wd at *)
          go_simp
          have hl7 := OwnB.oneG _ a ha66 hB.size
          have hown := hown.alloc (.cells #[.int .u8 (a : Int)] 5)
          try have h15 := h15.alloc (.cells #[.int .u8 (a : Int)] 5)
          have hB := hB.alloc hB.size (.cells #[.int .u8 (a : Int)] 5)
          generalize wd.alloc (.cells #[.int .u8 (a : Int)] 5) = wd at *
          have hkb := KB.of hB
          refine hK.out _ _ hkb ?_; clear hK K
          try simp only [Act.put, List.setIfInBounds_toArray, List.set_cons_zero, List.set_cons_succ]
          refine bopH2 8 15 (oi := _) (oj := _) (by simp only [List.getElem?_toArray, List.getElem?_cons_succ, List.getElem?_cons_zero]; rfl) (by simp only [List.getElem?_toArray, List.getElem?_cons_succ, List.getElem?_cons_zero]; rfl) (by kernel_rfl) (by first | assumption | exact KB.refl _ | exact kb0 _) (by rfl) (by rfl) (fun K hK => ?_) (fun K hK => ?_)
          · -- 8: Op.call { callee := Callee.builtin Builtin.append, args := #[Operand.tmp 32, Operand.tmp 39], argTypes := #[34, 34] }
            refine wp_app rfl hown (OwnB.sl (l := [UInt8.ofNat a]) hl7).1 rfl rfl rfl (by simp; omega) hB.size ?_
            intro s5 wd hown5 hg5 hat5
            have hB := own_below hB hB.size hown hg5
            try have h15 := h15.grew hg5
            clear hown hg5 hat5
            have hown := hown5
            clear hown5
            have hkb := KB.of hB
            refine hK.out _ _ hkb ?_; clear hK K
            try simp only [Act.put, List.setIfInBounds_toArray, List.set_cons_zero, List.set_cons_succ]
            -- 15: Op.buildSlice 58 1 #[(0, Operand.tmp 46)]
            refine bopH 15 (o := _) (by simp only [List.getElem?_toArray, List.getElem?_cons_succ, List.getElem?_cons_zero]; rfl) (by kernel_rfl) (by first | assumption | exact KB.refl _ | exact kb0 _) (by rfl) (fun K hK => ?_)
            try (clear hmark; generalize wr.drew = wd at *)
            go_simp
            have h15 := U1.new hown q
            try have hl7 := hl7.alloc (.cells #[.int .u64 (q : Int)] 38)
            have hown := hown.alloc (.cells #[.int .u64 (q : Int)] 38)
            have hB := hB.alloc hB.size (.cells #[.int .u64 (q : Int)] 38)
            generalize wd.alloc (.cells #[.int .u64 (q : Int)] 38) = wd at *
            have hkb := KB.of hB
            refine hK.out _ _ hkb ?_; clear hK K
            try simp only [Act.put, List.setIfInBounds_toArray, List.set_cons_zero, List.set_cons_succ]
            -- 16: Op.call { callee := Callee.value (Operand.func 19), args := #[Operand.tmp 40, Operand.tmp 47], argTypes := #[34, 58] }
            refine bopH 16 (o := _) (by simp only [List.getElem?_toArray, List.getElem?_cons_succ, List.getElem?_cons_zero]; rfl) (by kernel_rfl) (by first | assumption | exact KB.refl _ | exact kb0 _) (by rfl) (fun K hK => ?_)
            go_simp
            obtain ⟨A5, c5, e5, _, _, hs5, _⟩ := OwnB.form hown
            subst e5
            obtain ⟨n6, hn6⟩ : ∃ n6, (L ++ [UInt8.ofNat a] ++ encs [q]).length = n6 := ⟨_, rfl⟩
            have hP := RefPut_any wd A5 _ c5 1 _ [q] hs5 h15.sl HU.out (by simp; omega)
            unfold Fresh at hP
            rw [hn6] at hP
            refine Calls.mono hP ?_
            rintro e w6 ⟨A6, c6, rfl, hown6, hb6⟩
            have hown6 := OwnB.lower hown6 hB.size
            have hB := hB.trans (hb6.mono hB.size)
            have hkb := KB.of hB
            refine hK.out _ _ hkb ?_; clear hK K
            try simp only [Act.put, List.setIfInBounds_toArray, List.set_cons_zero, List.set_cons_succ]
            refine btake 17 (oi := _) (v := ?_) (by simp only [List.getElem?_toArray, List.getElem?_cons_succ, List.getElem?_cons_zero]; rfl) (by kernel_rfl) (by exact fun _ _ _ h => h) (by first | assumption | exact KB.refl _ | exact kb0 _) (.inl ⟨by rfl, fun W hW => ?_⟩) ?_; rotate_left
            · (go_simp; first | done | with_reducible rfl)
            try simp only [Act.put, List.setIfInBounds_toArray, List.set_cons_zero, List.set_cons_succ]
            refine bdone (by kernel_rfl) ?_
            have hL6 : (L ++ [UInt8.ofNat a] ++ encs [q]).length ≤ 11 * (i + 1) := by have := HE.out; simp [encs]; omega
            clear hP hown hs5 h15 hn6 hkb hw1 hw2 hw3 e0 f0 hS0 hb6
            go_wp2_with fail
            go_roundw
            case rel => exact ⟨i + 1, _, by omega, by go_num, hown6, hL6, hB⟩
            case measure => simp [intOf]; omega
          · -- 15: Op.buildSlice 58 1 #[(0, Operand.tmp 46)]
            try (clear hmark; generalize wr.drew = wd at *)
            go_simp
            have h15 := U1.new hown q
            try have hl7 := hl7.alloc (.cells #[.int .u64 (q : Int)] 38)
            have hown := hown.alloc (.cells #[.int .u64 (q : Int)] 38)
            have hB := hB.alloc hB.size (.cells #[.int .u64 (q : Int)] 38)
            generalize wd.alloc (.cells #[.int .u64 (q : Int)] 38) = wd at *
            have hkb := KB.of hB
            refine hK.out _ _ hkb ?_; clear hK K
            try simp only [Act.put, List.setIfInBounds_toArray, List.set_cons_zero, List.set_cons_succ]
            -- 8: Op.call { callee := Callee.builtin Builtin.append, args := #[Operand.tmp 32, Operand.tmp 39], argTypes := #[34, 34] }
            refine bopH 8 (o := _) (by simp only [List.getElem?_toArray, List.getElem?_cons_succ, List.getElem?_cons_zero]; rfl) (by kernel_rfl) (by first | assumption | exact KB.refl _ | exact kb0 _) (by rfl) (fun K hK => ?_)
            refine wp_app rfl hown (OwnB.sl (l := [UInt8.ofNat a]) hl7).1 rfl rfl rfl (by simp; omega) hB.size ?_
            intro s5 wd hown5 hg5 hat5
            have hB := own_below hB hB.size hown hg5
            try have h15 := h15.grew hg5
            clear hown hg5 hat5
            have hown := hown5
            clear hown5
            have hkb := KB.of hB
            refine hK.out _ _ hkb ?_; clear hK K
            try simp only [Act.put, List.setIfInBounds_toArray, List.set_cons_zero, List.set_cons_succ]
            -- 16: Op.call { callee := Callee.value (Operand.func 19), args := #[Operand.tmp 40, Operand.tmp 47], argTypes := #[34, 58] }
            refine bopH 16 (o := _) (by simp only [List.getElem?_toArray, List.getElem?_cons_succ, List.getElem?_cons_zero]; rfl) (by kernel_rfl) (by first | assumption | exact KB.refl _ | exact kb0 _) (by rfl) (fun K hK => ?_)
            go_simp
            obtain ⟨A5, c5, e5, _, _, hs5, _⟩ := OwnB.form hown
            subst e5
            obtain ⟨n6, hn6⟩ : ∃ n6, (L ++ [UInt8.ofNat a] ++ encs [q]).length = n6 := ⟨_, rfl⟩
            have hP := RefPut_any wd A5 _ c5 1 _ [q] hs5 h15.sl HU.out (by simp; omega)
            unfold Fresh at hP
            rw [hn6] at hP
            refine Calls.mono hP ?_
            rintro e w6 ⟨A6, c6, rfl, hown6, hb6⟩
            have hown6 := OwnB.lower hown6 hB.size
            have hB := hB.trans (hb6.mono hB.size)
            have hkb := KB.of hB
            refine hK.out _ _ hkb ?_; clear hK K
            try simp only [Act.put, List.setIfInBounds_toArray, List.set_cons_zero, List.set_cons_succ]
            refine btake 17 (oi := _) (v := ?_) (by simp only [List.getElem?_toArray, List.getElem?_cons_succ, List.getElem?_cons_zero]; rfl) (by kernel_rfl) (by exact fun _ _ _ h => h) (by first | assumption | exact KB.refl _ | exact kb0 _) (.inl ⟨by rfl, fun W hW => ?_⟩) ?_; rotate_left
            · (go_simp; first | done | with_reducible rfl)
            try simp only [Act.put, List.setIfInBounds_toArray, List.set_cons_zero, List.set_cons_succ]
            refine bdone (by kernel_rfl) ?_
            have hL6 : (L ++ [UInt8.ofNat a] ++ encs [q]).length ≤ 11 * (i + 1) := by have := HE.out; simp [encs]; omega
            clear hP hown hs5 h15 hn6 hkb hw1 hw2 hw3 e0 f0 hS0 hb6
            go_wp2_with fail
            go_roundw
            case rel => exact ⟨i + 1, _, by omega, by go_num, hown6, hL6, hB⟩
            case measure => simp [intOf]; omega
        · -- 15: Op.buildSlice 58 1 #[(0, Operand.tmp 46)]
          try (clear hmark; generalize wr.drew = wd at *)
          go_simp
          have h15 := U1.new hown q
          try have hl7 := hl7.alloc (.cells #[.int .u64 (q : Int)] 38)
          have hown := hown.alloc (.cells #[.int .u64 (q : Int)] 38)
          have hB := hB.alloc hB.size (.cells #[.int .u64 (q : Int)] 38)
          generalize wd.alloc (.cells #[.int .u64 (q : Int)] 38) = wd at *
          have hkb := KB.of hB
          refine hK.out _ _ hkb ?_; clear hK K
          try simp only [Act.put, List.setIfInBounds_toArray, List.set_cons_zero, List.set_cons_succ]
          -- 7: Op.buildSlice 34 1 #[(0, Operand.tmp 38)]
          refine bopH 7 (o := _) (by simp only [List.getElem?_toArray, List.getElem?_cons_succ, List.getElem?_cons_zero]; rfl) (by kernel_rfl) (by first | assumption | exact KB.refl _ | exact kb0 _) (by rfl) (fun K hK => ?_)
          try (clear hmark; generalize wr.drew = wd at *)
          go_simp
          have hl7 := OwnB.oneG _ a ha66 hB.size
          have hown := hown.alloc (.cells #[.int .u8 (a : Int)] 5)
          try have h15 := h15.alloc (.cells #[.int .u8 (a : Int)] 5)
          have hB := hB.alloc hB.size (.cells #[.int .u8 (a : Int)] 5)
          generalize wd.alloc (.cells #[.int .u8 (a : Int)] 5) = wd at *
          have hkb := KB.of hB
          refine hK.out _ _ hkb ?_; clear hK K
          try simp only [Act.put, List.setIfInBounds_toArray, List.set_cons_zero, List.set_cons_succ]
          -- 8: Op.call { callee := Callee.builtin Builtin.append, args := #[Operand.tmp 32, Operand.tmp 39], argTypes := #[34, 34] }
          refine bopH 8 (o := _) (by simp only [List.getElem?_toArray, List.getElem?_cons_succ, List.getElem?_cons_zero]; rfl) (by kernel_rfl) (by first | assumption | exact KB.refl _ | exact kb0 _) (by rfl) (fun K hK => ?_)
          refine wp_app rfl hown (OwnB.sl (l := [UInt8.ofNat a]) hl7).1 rfl rfl rfl (by simp; omega) hB.size ?_
          intro s5 wd hown5 hg5 hat5
          have hB := own_below hB hB.size hown hg5
          try have h15 := h15.grew hg5
          clear hown hg5 hat5
          have hown := hown5
          clear hown5
          have hkb := KB.of hB
          refine hK.out _ _ hkb ?_; clear hK K
          try simp only [Act.put, List.setIfInBounds_toArray, List.set_cons_zero, List.set_cons_succ]
          -- 16: Op.call { callee := Callee.value (Operand.func 19), args := #[Operand.tmp 40, Operand.tmp 47], argTypes := #[34, 58] }
          refine bopH 16 (o := _) (by simp only [List.getElem?_toArray, List.getElem?_cons_succ, List.getElem?_cons_zero]; rfl) (by kernel_rfl) (by first | assumption | exact KB.refl _ | exact kb0 _) (by rfl) (fun K hK => ?_)
          go_simp
          obtain ⟨A5, c5, e5, _, _, hs5, _⟩ := OwnB.form hown
          subst e5
          obtain ⟨n6, hn6⟩ : ∃ n6, (L ++ [UInt8.ofNat a] ++ encs [q]).length = n6 := ⟨_, rfl⟩
          have hP := RefPut_any wd A5 _ c5 1 _ [q] hs5 h15.sl HU.out (by simp; omega)
          unfold Fresh at hP
          rw [hn6] at hP
          refine Calls.mono hP ?_
          rintro e w6 ⟨A6, c6, rfl, hown6, hb6⟩
          have hown6 := OwnB.lower hown6 hB.size
          have hB := hB.trans (hb6.mono hB.size)
          have hkb := KB.of hB
          refine hK.out _ _ hkb ?_; clear hK K
          try simp only [Act.put, List.setIfInBounds_toArray, List.set_cons_zero, List.set_cons_succ]
          refine btake 17 (oi := _) (v := ?_) (by simp only [List.getElem?_toArray, List.getElem?_cons_succ, List.getElem?_cons_zero]; rfl) (by kernel_rfl) (by exact fun _ _ _ h => h) (by first | assumption | exact KB.refl _ | exact kb0 _) (.inl ⟨by rfl, fun W hW => ?_⟩) ?_; rotate_left
          · (go_simp; first | done | with_reducible rfl)
          try simp only [Act.put, List.setIfInBounds_toArray, List.set_cons_zero, List.set_cons_succ]
          refine bdone (by kernel_rfl) ?_
          have hL6 : (L ++ [UInt8.ofNat a] ++ encs [q]).length ≤ 11 * (i + 1) := by have := HE.out; simp [encs]; omega
          clear hP hown hs5 h15 hn6 hkb hw1 hw2 hw3 e0 f0 hS0 hb6
          go_wp2_with fail
          go_roundw
          case rel => exact ⟨i + 1, _, by omega, by go_num, hown6, hL6, hB⟩
          case measure => simp [intOf]; omega
      · obtain rfl : i = x.length := by omega
        have hd3 : decide ((x.length : Int) < (x.length : Int)) = false := by rw [decide_eq_false_iff_not]; omega
        have hwx : IntKind.u64.wrap (x.length : Int) = (x.length : Int) := by rw [IntKind.wrap_u64]; omega
        have hLl' : L.length ≤ 220 := by omega
        have hU : ∀ z ∈ [x.length], U64 z := by intro z hz; rw [List.mem_singleton] at hz; subst hz; unfold U64; omega
        obtain ⟨Ap, cp, ep, _, _, hsp, _⟩ := OwnB.form hown
        obtain ⟨nL, hnL⟩ : ∃ nL, L.length = nL := ⟨_, rfl⟩
        rw [hnL] at ep hLl'
        subst ep
        have hwr : (by' : Int).tmod 20 = ((by' % 20 : Nat) : Int) := rfl
        have hr20 : by' % 20 < 256 := by omega
        generalize by' % 20 = r20 at *
        have hbb := balloc hbel (.cells (uv [x.length]).toArray 38)
        have hP := RefPut_any (wr.alloc (.cells (uv [x.length]).toArray 38)) none (some ⟨wr.heap.size, 0, none⟩) 0 1 [] [x.length] Sl.nil ((Sl.lit64 wr [x.length]).more (by simp)) hU (by simp)
        have hspb := (hsp.alloc (.cells (uv [x.length]).toArray 38)).more (B' := (wr.alloc (.cells (uv [x.length]).toArray 38)).heap.size) (by simp)
        obtain ⟨X, hX⟩ : ∃ X, [] ++ encs [x.length] = X := ⟨_, rfl⟩
        have hXl : X.length ≤ 10 := by rw [← hX]; have := enc_len x.length; simp [encs]; omega
        rw [hX] at hP
        have HX := Lib.hid (And.intro hXl (And.intro hnL hLl'))
        clear hLl hx hxl hX hXl hnL hLl' hown hsp
        go_wp2_with fail
        refine Calls.mono hP ?_
        rintro e w2 ⟨A2, c2, rfl, hown2, hb2⟩
        have hown2 := OwnB.lower hown2 hbb.size
        have hbw2 := hbb.trans (hb2.mono hbb.size)
        have hsp2 := (hspb.below hb2).more hb2.size
        clear hP hspb hbb hb2 hbel
        go_wp2_with (at_builtin; refine app rfl rfl hown2 hsp2 HX.out.2.1.symm rfl rfl (by have := HX.out; omega) hbw2.size ?_; intro s3 w3 hown3 hg3 hat3)
        have hbw3 := own_below hbw2 hbw2.size hown2 hg3
        obtain ⟨PP, hPP⟩ : ∃ PP, X ++ L = PP := ⟨_, rfl⟩
        rw [hPP] at hown3
        have hPPl : PP.length ≤ 240 := by have := HX.out; rw [← hPP, List.length_append]; omega
        obtain ⟨A3, c3, e3, hle3, hcm3, hs3, _⟩ := OwnB.form hown3
        obtain ⟨n3, hn3⟩ : ∃ n3, PP.length = n3 := ⟨_, rfl⟩
        rw [hn3] at e3 hle3 hPPl
        subst e3
        have hCh := Changed_any w3 A3 n3 c3 PP hs3 hn3.symm (by omega) at' ha.1 ha.2 by' hby how hhow
        rw [hn3] at hCh
        have HN := Lib.hid (And.intro hn3 hPPl)
        clear hsp2 hown2 hg3 hat3 hPP hbw2 hn3 hown3
        refine Calls.mono hCh ?_
        rintro e w4 ⟨A4, c4, C, rfl, hs4, hle4, hcm4, hCl, hb4⟩
        have hbw4 := hbw3.trans (hb4.mono hbw3.size)
        obtain ⟨n4, hn4⟩ : ∃ n4, C.length = n4 := ⟨_, rfl⟩
        rw [hn4] at hle4 hCl ⊢
        have HC := Lib.hid (And.intro hn4 hCl)
        have hs34 := (hs3.below hb4).more hb4.size
        have hown5 := OwnB.oneG w4 r20 hr20 hbw4.size
        have hbw5 := balloc hbw4 (.cells #[.int .u8 (r20 : Int)] 5)
        have hl5 := (hl.below hbw5).more hbw5.size
        clear hCh hn4 hb4 hbw3 hs3
        obtain ⟨D, hD⟩ : ∃ D, [UInt8.ofNat r20] ++ l = D := ⟨_, rfl⟩
        obtain ⟨n6, hn6⟩ : ∃ n6, D.length = n6 := ⟨_, rfl⟩
        have hn6l : n6 ≤ 140737488351240 := by rw [← hn6, ← hD]; simp; omega
        have HD := Lib.hid (And.intro hD hn6)
        clear hD hn6
        go_wp2_with (at_builtin; refine app rfl rfl hown5 hl5 rfl rfl rfl (by simp; omega) hbw5.size ?_; intro s6 w6 hown6 hg6 hat6; rw [HD.out.1] at hown6; obtain ⟨A6, c6, e6, hle6, hcm6, hs6, _⟩ := OwnB.form hown6; rw [HD.out.2] at e6 hle6; subst e6)
        have hbr6 : Below w4.heap.size w4 w6 := (balloc (Below.refl _ _) _).trans ((below_of_grown hg6 (B := w4.heap.size) (fun g e => by simp [Value.ownBlock] at e; omega) (by simp)))
        have hbw6 := hbw4.trans (hbr6.mono hbw4.size)
        have hM := Mat.four w6 34 (.slice A l.length c) (.slice A3 n3 c3) (.slice A4 n4 c4) (.slice A6 n6 c6) l PP C D
          ⟨A, c, rfl, (hl.below hbw6).more hbw6.size, hc, by simp only [maxLen]; omega⟩ ⟨A3, c3, by rw [HN.out.1], (hs34.below hbr6).more hbr6.size, by rw [HN.out.1]; exact hle3, hcm3⟩
          ⟨A4, c4, by rw [HC.out.1], (hs4.below hbr6).more hbr6.size, by rw [HC.out.1]; exact hle4, hcm4⟩ ⟨A6, c6, by rw [HD.out.2], hs6, by rw [HD.out.2]; exact hle6, hcm6⟩
        have hbw7 := balloc hbw6 (.cells #[.slice A l.length c, .slice A3 n3 c3, .slice A4 n4 c4, .slice A6 n6 c6] 34)
        have hlm : ∀ k : Nat, (([l, PP, C, D] : List (List UInt8))[k]?.getD []).length ≤ 140737488351240 := by
          intro k
          have := HN.out
          have := HC.out
          have := HD.out
          match k with
          | 0 => simp; omega
          | 1 => simp; omega
          | 2 => simp; omega
          | 3 => simp; omega
          | k + 4 => simp
        have hl4 : ([l, PP, C, D] : List (List UInt8)).length = 4 := rfl
        generalize ([l, PP, C, D] : List (List UInt8)) = LL at *
        generalize w6.alloc (.cells #[.slice A l.length c, .slice A3 n3 c3, .slice A4 n4 c4, .slice A6 n6 c6] 34) = w7 at *
        have HM := Lib.hid (And.intro hM (And.intro hlm hl4))
        clear hM hlm hl4 hl hs34 hs4 hs6 hown5 hl5 hbw5 hown6 hg6 hat6 hbr6 hbw6 hbw4
        go_loopw [70] (fun x70 wr => ∃ k : Nat, k ≤ 4 ∧ x70 = .int .i64 (k : Int) ∧ Below w7.heap.size w7 wr) (fun x70 _ => 4 - (intOf x70).toNat)
        case atStart => exact ⟨0, by omega, rfl, Below.refl _ _⟩
        case round =>
          obtain ⟨k, hk, rfl, hbel⟩ := hrel
          by_cases hlt : k < 4
          · obtain ⟨bm, om, A5, c5, e9, hbm, f0, hs5, hle5, hcm5⟩ := HM.out.1.at_ (k := k) (by rw [HM.out.2.2]; exact hlt)
            have hV := HM.out.2.1 k
            generalize LL[k]?.getD [] = V at *
            obtain ⟨nv, hnv⟩ : ∃ nv, V.length = nv := ⟨_, rfl⟩
            rw [hnv] at f0 hle5 hV
            cases e9
            rw [Nat.zero_add] at f0
            replace f0 := (hbel.cell hbm).trans f0
            replace hs5 := (hs5.below hbel).more hbel.size
            have hT1 := TakeAll_any wr A5 nv c5 V hs5 hnv.symm hle5 hcm5
            have hT2 := fun W (hW : Below wr.heap.size wr W) => DotAll_any W A5 nv c5 V ((hs5.below hW).more hW.size) hnv.symm hle5 hcm5
            have hok := takeDs_ok (b := V)
            have h16 := takeDs_len V
            unfold TakeAllPost at hT1 hT2
            obtain ⟨⟨Y, j, e⟩, hq⟩ : ∃ q, takeDs V = q := ⟨_, rfl⟩
            rw [hq] at hT1 hT2 hok h16
            simp only at hT1 hT2 hok h16
            obtain ⟨nY, hnY⟩ : ∃ nY, Y.length = nY := ⟨_, rfl⟩
            rw [hnY] at hT1 hT2 h16
            rw [hnv] at hok
            have hd5 : decide ((k : Int) < 4) = true := by rw [decide_eq_true_eq]; omega
            have hk0 : (0 : Int) ≤ (k : Int) := by omega
            have hk3 : (k : Int) < 4 := by omega
            have H2 := Lib.hid hT2
            clear hT2 hq
            go_wp2_with fail
            refine Calls.mono hT1 ?_
            rintro e1 w8 ⟨Y1, cY1, rfl, hsY1, _, _, hb8⟩
            go_wp2_with fail
            refine (H2.out w8 hb8).mono ?_
            rintro e1 w9 ⟨Y2, cY2, rfl, hsY2, _, _, hb9⟩
            have hsY1' := (hsY1.below hb9).more hb9.size
            have hSm := Same_any w9 Y1 Y2 nY nY cY1 cY2 Y Y hsY1' hsY2 hnY.symm hnY.symm (by omega) (by omega) (Nat.le_refl _) (Nat.le_refl _)
            simp only [decide_true] at hSm
            have hb9' := hb8.trans (hb9.mono hb8.size)
            clear hT1 hsY1 hsY2 hb8 hb9 H2
            go_wp2_with fail
            refine Calls.mono hSm ?_
            rintro e1 w10 ⟨rfl, hb10⟩
            have hb11 := hb9'.trans (hb10.mono hb9'.size)
            have hsY := (hsY1'.below hb10).more hb10.size
            have hs10 := (hs5.below hb11).more hb11.size
            have hbz := hbel.trans (hb11.mono hbel.size)
            clear hSm hsY1' hb9' hb10 hb11 hs5 f0 hbel
            by_cases he : e = 0
            · obtain ⟨j1, j2, hput⟩ := hok he
              subst he
              have hP := fun W (hW : Below w10.heap.size w10 W) => DPut_any W Y1 nY cY1 Y ((hsY.below hW).more hW.size) hnY.symm (by omega)
              rw [hput] at hP
              have hsT : Sl w10 w10.heap.size A5 (bv (V.take j)) := by rw [← bv_take]; exact hs10.tk _
              obtain ⟨T, hT⟩ : ∃ T, V.take j = T := ⟨_, rfl⟩
              have hTj : T.length = j := by rw [← hT, List.length_take]; omega
              rw [hT] at hP hsT
              unfold Fresh at hP
              rw [hTj] at hP
              have HP := Lib.hid hP
              have HT := Lib.hid hTj
              have hcvV := convB hsT j c5 hTj.symm
              have q1 : decide ((j : Int) < 1) = false := by rw [decide_eq_false_iff_not]; omega
              have q2 : decide ((nv : Int) < (j : Int)) = false := by rw [decide_eq_false_iff_not]; omega
              have q5 : decide (nv < j) = false := by rw [decide_eq_false_iff_not]; omega
              have q6 : decide (j < 1) = false := by rw [decide_eq_false_iff_not]; omega
              have q3 : (0 : Int) ≤ (j : Int) := by omega
              have q4 : (j : Int) ≤ (c5 : Int) := by omega
              clear hP hput hT hTj hok hsT
              go_wp2_with fail
              refine bstart (by kernel_rfl) ?_
              refine btake 0 (oi := _) (v := ?_) (by simp only [List.getElem?_toArray, List.getElem?_cons_zero]; rfl) (by kernel_rfl) (by exact fun _ _ _ h => h) (by first | assumption | exact KB.refl _) (.inl ⟨by rfl, fun W hW => ?_⟩) ?_; rotate_left
              · (go_simp; first | done | with_reducible rfl)
              try simp only [Act.put, List.setIfInBounds_toArray, List.set_cons_zero, List.set_cons_succ]
              refine btake 1 (oi := _) (v := ?_) (by simp only [List.getElem?_toArray, List.getElem?_cons_succ, List.getElem?_cons_zero]; rfl) (by kernel_rfl) (by exact fun _ _ _ h => h) (by first | assumption | exact KB.refl _) (.inl ⟨by rfl, fun W hW => ?_⟩) ?_; rotate_left
              · (go_simp; first | done | with_reducible rfl)
              try simp only [Act.put, List.setIfInBounds_toArray, List.set_cons_zero, List.set_cons_succ]
              refine btake 2 (oi := _) (v := ?_) (by simp only [List.getElem?_toArray, List.getElem?_cons_succ, List.getElem?_cons_zero]; rfl) (by kernel_rfl) (by exact fun _ _ _ h => h) (by first | assumption | exact KB.refl _) (.inl ⟨by rfl, fun W hW => ?_⟩) ?_; rotate_left
              · (go_simp; first | done | with_reducible rfl)
              try simp only [Act.put, List.setIfInBounds_toArray, List.set_cons_zero, List.set_cons_succ]
              refine btake 3 (oi := _) (v := ?_) (by simp only [List.getElem?_toArray, List.getElem?_cons_succ, List.getElem?_cons_zero]; rfl) (by kernel_rfl) (by exact fun _ _ _ h => h) (by first | assumption | exact KB.refl _) (.inl ⟨by rfl, fun W hW => ?_⟩) ?_; rotate_left
              · (go_simp; first | done | with_reducible rfl)
              try simp only [Act.put, List.setIfInBounds_toArray, List.set_cons_zero, List.set_cons_succ]
              refine btake 4 (oi := _) (v := ?_) (by simp only [List.getElem?_toArray, List.getElem?_cons_succ, List.getElem?_cons_zero]; rfl) (by kernel_rfl) (by exact fun _ _ _ h => h) (by first | assumption | exact KB.refl _) (.inl ⟨by rfl, fun W hW => ?_⟩) ?_; rotate_left
              · (go_simp; first | done | with_reducible rfl)
              try simp only [Act.put, List.setIfInBounds_toArray, List.set_cons_zero, List.set_cons_succ]
              refine btake 5 (oi := _) (v := ?_) (by simp only [List.getElem?_toArray, List.getElem?_cons_succ, List.getElem?_cons_zero]; rfl) (by kernel_rfl) (by exact fun _ _ _ h => h) (by first | assumption | exact KB.refl _) (.inl ⟨by rfl, fun W hW => ?_⟩) ?_; rotate_left
              · (go_simp; first | done | with_reducible rfl)
              try simp only [Act.put, List.setIfInBounds_toArray, List.set_cons_zero, List.set_cons_succ]
              refine btake 6 (oi := _) (v := ?_) (by simp only [List.getElem?_toArray, List.getElem?_cons_succ, List.getElem?_cons_zero]; rfl) (by kernel_rfl) (by exact fun _ _ _ h => h) (by first | assumption | exact KB.refl _) (.inl ⟨by rfl, fun W hW => ?_⟩) ?_; rotate_left
              · (go_simp; first | done | with_reducible rfl)
              try simp only [Act.put, List.setIfInBounds_toArray, List.set_cons_zero, List.set_cons_succ]
              refine btake 7 (oi := _) (v := ?_) (by simp only [List.getElem?_toArray, List.getElem?_cons_succ, List.getElem?_cons_zero]; rfl) (by kernel_rfl) (by exact fun _ _ _ h => h) (by first | assumption | exact KB.refl _) (.inl ⟨by rfl, fun W hW => ?_⟩) ?_; rotate_left
              · (go_simp; first | done | with_reducible rfl)
              try simp only [Act.put, List.setIfInBounds_toArray, List.set_cons_zero, List.set_cons_succ]
              refine btake 8 (oi := _) (v := ?_) (by simp only [List.getElem?_toArray, List.getElem?_cons_succ, List.getElem?_cons_zero]; rfl) (by kernel_rfl) (by exact fun _ _ _ h => h) (by first | assumption | exact KB.refl _) (.inl ⟨by rfl, fun W hW => ?_⟩) ?_; rotate_left
              · (go_simp; first | done | with_reducible rfl)
              try simp only [Act.put, List.setIfInBounds_toArray, List.set_cons_zero, List.set_cons_succ]
              refine btake 9 (oi := _) (v := ?_) (by simp only [List.getElem?_toArray, List.getElem?_cons_succ, List.getElem?_cons_zero]; rfl) (by kernel_rfl) (by exact fun _ _ _ h => h) (by first | assumption | exact KB.refl _) (.inl ⟨by rfl, fun W hW => ?_⟩) ?_; rotate_left
              · (go_simp; first | done | with_reducible rfl)
              try simp only [Act.put, List.setIfInBounds_toArray, List.set_cons_zero, List.set_cons_succ]
              refine btake 10 (oi := _) (v := ?_) (by simp only [List.getElem?_toArray, List.getElem?_cons_succ, List.getElem?_cons_zero]; rfl) (by kernel_rfl) (by exact fun _ _ _ h => h) (by first | assumption | exact KB.refl _) (.inl ⟨by rfl, fun W hW => ?_⟩) ?_; rotate_left
              · (go_simp; first | done | with_reducible rfl)
              try simp only [Act.put, List.setIfInBounds_toArray, List.set_cons_zero, List.set_cons_succ]
              refine btake 11 (oi := _) (v := ?_) (by simp only [List.getElem?_toArray, List.getElem?_cons_succ, List.getElem?_cons_zero]; rfl) (by kernel_rfl) (by exact fun _ _ _ h => h) (by first | assumption | exact KB.refl _) (.inl ⟨by rfl, fun W hW => ?_⟩) ?_; rotate_left
              · (go_simp; first | done | with_reducible rfl)
              try simp only [Act.put, List.setIfInBounds_toArray, List.set_cons_zero, List.set_cons_succ]
              refine btake 12 (oi := _) (v := ?_) (by simp only [List.getElem?_toArray, List.getElem?_cons_succ, List.getElem?_cons_zero]; rfl) (by kernel_rfl) (by exact fun _ _ _ h => h) (by first | assumption | exact KB.refl _) (.inl ⟨by rfl, fun W hW => ?_⟩) ?_; rotate_left
              · (go_simp; first | done | with_reducible rfl)
              try simp only [Act.put, List.setIfInBounds_toArray, List.set_cons_zero, List.set_cons_succ]
              refine btake 15 (oi := _) (v := ?_) (by simp only [List.getElem?_toArray, List.getElem?_cons_succ, List.getElem?_cons_zero]; rfl) (by kernel_rfl) (by exact fun _ _ _ h => h) (by first | assumption | exact KB.refl _) (.inl ⟨by rfl, fun W hW => ?_⟩) ?_; rotate_left
              · (go_simp; first | done | with_reducible rfl)
              try simp only [Act.put, List.setIfInBounds_toArray, List.set_cons_zero, List.set_cons_succ]
              refine btake 16 (oi := _) (v := ?_) (by simp only [List.getElem?_toArray, List.getElem?_cons_succ, List.getElem?_cons_zero]; rfl) (by kernel_rfl) (by exact fun _ _ _ h => h) (by first | assumption | exact KB.refl _) (.inl ⟨by rfl, fun W hW => ?_⟩) ?_; rotate_left
              · (go_simp; first | done | with_reducible rfl)
              try simp only [Act.put, List.setIfInBounds_toArray, List.set_cons_zero, List.set_cons_succ]
              refine btake 17 (oi := _) (v := ?_) (by simp only [List.getElem?_toArray, List.getElem?_cons_succ, List.getElem?_cons_zero]; rfl) (by kernel_rfl) (by exact fun _ _ _ h => h) (by first | assumption | exact KB.refl _) (.inl ⟨by rfl, fun W hW => ?_⟩) ?_; rotate_left
              · (go_simp; first | done | with_reducible rfl)
              try simp only [Act.put, List.setIfInBounds_toArray, List.set_cons_zero, List.set_cons_succ]
              refine btake 18 (oi := _) (v := ?_) (by simp only [List.getElem?_toArray, List.getElem?_cons_succ, List.getElem?_cons_zero]; rfl) (by kernel_rfl) (by exact fun _ _ _ h => h) (by first | assumption | exact KB.refl _) (.inl ⟨by rfl, fun W hW => ?_⟩) ?_; rotate_left
              · (go_simp; first | done | with_reducible rfl)
              try simp only [Act.put, List.setIfInBounds_toArray, List.set_cons_zero, List.set_cons_succ]
              -- 13: newsreel/dot.Put
              refine bop 13 (o := _) (by simp only [List.getElem?_toArray, List.getElem?_cons_succ, List.getElem?_cons_zero]; rfl) (by kernel_rfl) (by first | assumption | exact KB.refl _) (by rfl) (fun K hK => ?_)
              go_simp
              refine (HP.out _ (Below.refl _ _).drew).mono ?_
              rintro e1 w11 ⟨A9, c9, rfl, g9, hb12⟩
              have hkb := KB.of hb12
              have hcv2 := convB (OwnB.sl (l := T) (by rw [HT.out]; exact g9)).1 j c9 HT.out.symm
              refine hK.out _ _ hkb ?_; clear hK K
              try simp only [Act.put, List.setIfInBounds_toArray, List.set_cons_zero, List.set_cons_succ]
              refine btake 14 (oi := _) (v := ?_) (by simp only [List.getElem?_toArray, List.getElem?_cons_succ, List.getElem?_cons_zero]; rfl) (by kernel_rfl) (by exact fun _ _ _ h => h) (by first | assumption | exact KB.refl _) (.inl ⟨by rfl, fun W hW => ?_⟩) ?_; rotate_left
              · (go_simp; first | done | with_reducible rfl)
              try simp only [Act.put, List.setIfInBounds_toArray, List.set_cons_zero, List.set_cons_succ]
              refine btake 19 (oi := _) (v := ?_) (by simp only [List.getElem?_toArray, List.getElem?_cons_succ, List.getElem?_cons_zero]; rfl) (by kernel_rfl) (by exact fun _ _ _ h => h) (by first | assumption | exact KB.refl _) (.inl ⟨by rfl, fun W hW => ?_⟩) ?_; rotate_left
              · (go_simp; first | done | with_reducible rfl)
              try simp only [Act.put, List.setIfInBounds_toArray, List.set_cons_zero, List.set_cons_succ]
              refine btake 20 (oi := _) (v := ?_) (by simp only [List.getElem?_toArray, List.getElem?_cons_succ, List.getElem?_cons_zero]; rfl) (by kernel_rfl) (by exact fun _ _ _ h => h) (by first | assumption | exact KB.refl _) (.inl ⟨by rfl, fun W hW => ?_⟩) ?_; rotate_left
              · (go_simp; first | done | with_reducible rfl)
              try simp only [Act.put, List.setIfInBounds_toArray, List.set_cons_zero, List.set_cons_succ]
              refine btake 21 (oi := _) (v := ?_) (by simp only [List.getElem?_toArray, List.getElem?_cons_succ, List.getElem?_cons_zero]; rfl) (by kernel_rfl) (by exact fun _ _ _ h => h) (by first | assumption | exact KB.refl _) (.inl ⟨by rfl, fun W hW => ?_⟩) ?_; rotate_left
              · (go_simp; first | done | with_reducible rfl)
              try simp only [Act.put, List.setIfInBounds_toArray, List.set_cons_zero, List.set_cons_succ]
              refine bdone (by kernel_rfl) ?_
              have hbz2 := hbz.trans (((Below.refl _ w10).drew.trans hb12).mono hbz.size)
              clear hcvV hcv2 hkb g9 hb12 hs10 hsY hbz
              go_wp2_with fail
              go_roundw
              case rel => exact ⟨k + 1, by omega, by go_num, hbz2⟩
              case measure => simp [intOf]; omega
            · have he1 : ((e : Int) == 0) = false := by rw [beq_eq_false_iff_ne]; omega
              clear hok hs10 hsY
              go_wp2_with fail
              refine bstart (by kernel_rfl) ?_
              refine btake 0 (oi := _) (v := ?_) (by simp only [List.getElem?_toArray, List.getElem?_cons_zero]; rfl) (by kernel_rfl) (by exact fun _ _ _ h => h) (by first | assumption | exact KB.refl _) (.inl ⟨by rfl, fun W hW => ?_⟩) ?_; rotate_left
              · (go_simp; first | done | with_reducible rfl)
              try simp only [Act.put, List.setIfInBounds_toArray, List.set_cons_zero, List.set_cons_succ]
              refine btake 1 (oi := _) (v := ?_) (by simp only [List.getElem?_toArray, List.getElem?_cons_succ, List.getElem?_cons_zero]; rfl) (by kernel_rfl) (by exact fun _ _ _ h => h) (by first | assumption | exact KB.refl _) (.inl ⟨by rfl, fun W hW => ?_⟩) ?_; rotate_left
              · (go_simp; first | done | with_reducible rfl)
              try simp only [Act.put, List.setIfInBounds_toArray, List.set_cons_zero, List.set_cons_succ]
              refine btake 2 (oi := _) (v := ?_) (by simp only [List.getElem?_toArray, List.getElem?_cons_succ, List.getElem?_cons_zero]; rfl) (by kernel_rfl) (by exact fun _ _ _ h => h) (by first | assumption | exact KB.refl _) (.inl ⟨by rfl, fun W hW => ?_⟩) ?_; rotate_left
              · (go_simp; first | done | with_reducible rfl)
              try simp only [Act.put, List.setIfInBounds_toArray, List.set_cons_zero, List.set_cons_succ]
              refine btake 3 (oi := _) (v := undef) (by simp only [List.getElem?_toArray, List.getElem?_cons_succ, List.getElem?_cons_zero]; rfl) (by kernel_rfl) (by exact fun _ _ _ h => h) (by first | assumption | exact KB.refl _) (.inr ⟨by rfl, rfl⟩) ?_
              try simp only [Act.put, List.setIfInBounds_toArray, List.set_cons_zero, List.set_cons_succ]
              refine btake 4 (oi := _) (v := undef) (by simp only [List.getElem?_toArray, List.getElem?_cons_succ, List.getElem?_cons_zero]; rfl) (by kernel_rfl) (by exact fun _ _ _ h => h) (by first | assumption | exact KB.refl _) (.inr ⟨by rfl, rfl⟩) ?_
              try simp only [Act.put, List.setIfInBounds_toArray, List.set_cons_zero, List.set_cons_succ]
              refine btake 5 (oi := _) (v := undef) (by simp only [List.getElem?_toArray, List.getElem?_cons_succ, List.getElem?_cons_zero]; rfl) (by kernel_rfl) (by exact fun _ _ _ h => h) (by first | assumption | exact KB.refl _) (.inr ⟨by rfl, rfl⟩) ?_
              try simp only [Act.put, List.setIfInBounds_toArray, List.set_cons_zero, List.set_cons_succ]
              refine btake 6 (oi := _) (v := undef) (by simp only [List.getElem?_toArray, List.getElem?_cons_succ, List.getElem?_cons_zero]; rfl) (by kernel_rfl) (by exact fun _ _ _ h => h) (by first | assumption | exact KB.refl _) (.inr ⟨by rfl, rfl⟩) ?_
              try simp only [Act.put, List.setIfInBounds_toArray, List.set_cons_zero, List.set_cons_succ]
              refine btake 7 (oi := _) (v := undef) (by simp only [List.getElem?_toArray, List.getElem?_cons_succ, List.getElem?_cons_zero]; rfl) (by kernel_rfl) (by exact fun _ _ _ h => h) (by first | assumption | exact KB.refl _) (.inr ⟨by rfl, rfl⟩) ?_
              try simp only [Act.put, List.setIfInBounds_toArray, List.set_cons_zero, List.set_cons_succ]
              refine btake 8 (oi := _) (v := undef) (by simp only [List.getElem?_toArray, List.getElem?_cons_succ, List.getElem?_cons_zero]; rfl) (by kernel_rfl) (by exact fun _ _ _ h => h) (by first | assumption | exact KB.refl _) (.inr ⟨by rfl, rfl⟩) ?_
              try simp only [Act.put, List.setIfInBounds_toArray, List.set_cons_zero, List.set_cons_succ]
              refine btake 9 (oi := _) (v := undef) (by simp only [List.getElem?_toArray, List.getElem?_cons_succ, List.getElem?_cons_zero]; rfl) (by kernel_rfl) (by exact fun _ _ _ h => h) (by first | assumption | exact KB.refl _) (.inr ⟨by rfl, rfl⟩) ?_
              try simp only [Act.put, List.setIfInBounds_toArray, List.set_cons_zero, List.set_cons_succ]
              refine btake 10 (oi := _) (v := undef) (by simp only [List.getElem?_toArray, List.getElem?_cons_succ, List.getElem?_cons_zero]; rfl) (by kernel_rfl) (by exact fun _ _ _ h => h) (by first | assumption | exact KB.refl _) (.inr ⟨by rfl, rfl⟩) ?_
              try simp only [Act.put, List.setIfInBounds_toArray, List.set_cons_zero, List.set_cons_succ]
              refine btake 11 (oi := _) (v := undef) (by simp only [List.getElem?_toArray, List.getElem?_cons_succ, List.getElem?_cons_zero]; rfl) (by kernel_rfl) (by exact fun _ _ _ h => h) (by first | assumption | exact KB.refl _) (.inr ⟨by rfl, rfl⟩) ?_
              try simp only [Act.put, List.setIfInBounds_toArray, List.set_cons_zero, List.set_cons_succ]
              refine btake 12 (oi := _) (v := undef) (by simp only [List.getElem?_toArray, List.getElem?_cons_succ, List.getElem?_cons_zero]; rfl) (by kernel_rfl) (by exact fun _ _ _ h => h) (by first | assumption | exact KB.refl _) (.inr ⟨by rfl, rfl⟩) ?_
              try simp only [Act.put, List.setIfInBounds_toArray, List.set_cons_zero, List.set_cons_succ]
              refine btake 13 (oi := _) (v := undef) (by simp only [List.getElem?_toArray, List.getElem?_cons_succ, List.getElem?_cons_zero]; rfl) (by kernel_rfl) (by exact fun _ _ _ h => h) (by first | assumption | exact KB.refl _) (.inr ⟨by rfl, rfl⟩) ?_
              try simp only [Act.put, List.setIfInBounds_toArray, List.set_cons_zero, List.set_cons_succ]
              refine btake 14 (oi := _) (v := undef) (by simp only [List.getElem?_toArray, List.getElem?_cons_succ, List.getElem?_cons_zero]; rfl) (by kernel_rfl) (by exact fun _ _ _ h => h) (by first | assumption | exact KB.refl _) (.inr ⟨by rfl, rfl⟩) ?_
              try simp only [Act.put, List.setIfInBounds_toArray, List.set_cons_zero, List.set_cons_succ]
              refine btake 15 (oi := _) (v := undef) (by simp only [List.getElem?_toArray, List.getElem?_cons_succ, List.getElem?_cons_zero]; rfl) (by kernel_rfl) (by exact fun _ _ _ h => h) (by first | assumption | exact KB.refl _) (.inr ⟨by rfl, rfl⟩) ?_
              try simp only [Act.put, List.setIfInBounds_toArray, List.set_cons_zero, List.set_cons_succ]
              refine btake 16 (oi := _) (v := undef) (by simp only [List.getElem?_toArray, List.getElem?_cons_succ, List.getElem?_cons_zero]; rfl) (by kernel_rfl) (by exact fun _ _ _ h => h) (by first | assumption | exact KB.refl _) (.inr ⟨by rfl, rfl⟩) ?_
              try simp only [Act.put, List.setIfInBounds_toArray, List.set_cons_zero, List.set_cons_succ]
              refine btake 17 (oi := _) (v := undef) (by simp only [List.getElem?_toArray, List.getElem?_cons_succ, List.getElem?_cons_zero]; rfl) (by kernel_rfl) (by exact fun _ _ _ h => h) (by first | assumption | exact KB.refl _) (.inr ⟨by rfl, rfl⟩) ?_
              try simp only [Act.put, List.setIfInBounds_toArray, List.set_cons_zero, List.set_cons_succ]
              refine btake 18 (oi := _) (v := undef) (by simp only [List.getElem?_toArray, List.getElem?_cons_succ, List.getElem?_cons_zero]; rfl) (by kernel_rfl) (by exact fun _ _ _ h => h) (by first | assumption | exact KB.refl _) (.inr ⟨by rfl, rfl⟩) ?_
              try simp only [Act.put, List.setIfInBounds_toArray, List.set_cons_zero, List.set_cons_succ]
              refine btake 19 (oi := _) (v := undef) (by simp only [List.getElem?_toArray, List.getElem?_cons_succ, List.getElem?_cons_zero]; rfl) (by kernel_rfl) (by exact fun _ _ _ h => h) (by first | assumption | exact KB.refl _) (.inr ⟨by rfl, rfl⟩) ?_
              try simp only [Act.put, List.setIfInBounds_toArray, List.set_cons_zero, List.set_cons_succ]
              refine btake 20 (oi := _) (v := undef) (by simp only [List.getElem?_toArray, List.getElem?_cons_succ, List.getElem?_cons_zero]; rfl) (by kernel_rfl) (by exact fun _ _ _ h => h) (by first | assumption | exact KB.refl _) (.inr ⟨by rfl, rfl⟩) ?_
              try simp only [Act.put, List.setIfInBounds_toArray, List.set_cons_zero, List.set_cons_succ]
              refine btake 21 (oi := _) (v := ?_) (by simp only [List.getElem?_toArray, List.getElem?_cons_succ, List.getElem?_cons_zero]; rfl) (by kernel_rfl) (by exact fun _ _ _ h => h) (by first | assumption | exact KB.refl _) (.inl ⟨by rfl, fun W hW => ?_⟩) ?_; rotate_left
              · (go_simp; first | done | with_reducible rfl)
              try simp only [Act.put, List.setIfInBounds_toArray, List.set_cons_zero, List.set_cons_succ]
              refine bdone (by kernel_rfl) ?_
              have hbz2 := hbz.drew
              clear hbz
              go_wp2_with fail
              go_roundw
              case rel => exact ⟨k + 1, by omega, by go_num, hbz2⟩
              case measure => simp [intOf]; omega
          · obtain rfl : k = 4 := by omega
            go_wp2_with fail
            go_ret
            exact ⟨rfl, hbw7.trans (hbel.mono hbw7.size)⟩
  · have hd2 : decide ((20 : Int) < (x.length : Int)) = true := by rw [decide_eq_true_eq]; omega
    go_enter Try.func7, Try.ntmps7
    go_wp2_with fail
    refine (HK.out _).mono ?_
    rintro e w1 ⟨rfl, hw1⟩
    go_wp2_with fail
    go_ret
    exact ⟨rfl, hw1⟩
end Go.Proofs.Ytpeecgphmcihaaa

