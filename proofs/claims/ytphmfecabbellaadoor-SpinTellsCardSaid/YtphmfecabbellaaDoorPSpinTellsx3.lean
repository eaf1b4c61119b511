-- Written by a program of this work (wip/tools) for this claim; Lean checks it.
import Derived.Test.YtphmfecabbellaaDoorPSpinTellsx0
import Derived.Test.YtphmfecabbellaaDoorPSpinTellsx1
namespace Go.Proofs.YtphmfecabbellaaDoor.PSpinTells
open Go.RowKit Go.Proofs.YtphmfecabbellaaDoorW.PrintWords Go.Proofs.YtphmfecabbellaaDoorW.PrintLast Go.Proofs.YtphmfecabbellaaDoorW.PrintMore
attribute [local go_sem] max2_int min2_int max_two min_two max_three min_three max_four min_four   -- for this text's walks alone
set_option linter.unusedVariables false
set_option linter.unusedSimpArgs false

/-! ### earshotlaw09_sized: function 14 -/
def sizedL (n : Nat) (l : List Int) : List Int := (List.range n).map fun i => l.getD i 0
theorem sizedL_length (n : Nat) (l : List Int) : (sizedL n l).length = n := by simp [sizedL]
theorem sizedL_getD (n : Nat) (l : List Int) (i : Nat) (hi : i < n) : (sizedL n l).getD i 0 = l.getD i 0 := getD_map_range _ _ _ hi
def sizeOf_ (s : Int) : Nat := 1 * 2 ^ (s % 6).toNat
theorem size_rem {s e : Int} (h : s % 6 = e) : Int.tmod (IntKind.i64.wrap (Int.tmod s 6 + 6)) 6 = e ∧ Int.tmod (wrap64 (Int.tmod s 6 + 6)) 6 = e ∧ Int.tmod (Int.tmod s 6 + 6) 6 = e := by
  have a := Int.lt_tmod_of_pos s (show (0 : Int) < 6 by decide)
  have b := Int.tmod_lt_of_pos s (show (0 : Int) < 6 by decide)
  have c := Int.tmod_eq_emod (a := s) (b := 6)
  have k : IntKind.i64.wrap (Int.tmod s 6 + 6) = Int.tmod s 6 + 6 := by rw [IntKind.wrap_i64]; omega
  have k2 : wrap64 (Int.tmod s 6 + 6) = Int.tmod s 6 + 6 := by unfold wrap64; omega
  have d : Int.tmod (Int.tmod s 6 + 6) 6 = e := by
    rw [Int.tmod_eq_emod_of_nonneg (by omega)]
    split at c <;> omega
  exact ⟨by rw [k]; exact d, by rw [k2]; exact d, d⟩
def earshotlaw09_sized.f (l0 : List Int) (a1 : Int) : Option (List Int) := if decide (l0.length ≤ 4000000000000000000) then some (sizedL (sizeOf_ a1) l0) else none
set_option maxHeartbeats 8000000 in
theorem sized_0 (A0 : Option Addr) (m c0 : Nat) (l0 : List Int) (a1 : Int) (w : World) (hl : l0.length = m) (hr0 : Kd.C (Kd.int .i64) w A0 m l0) (hm : m ≤ 4000000000000000000) (he : a1 % 6 = 0) :
    Calls Tryd.prog 14 #[.slice A0 m c0, .int .i64 a1] w fun e w' => ∃ v0_ : Value, e = .returned v0_ ∧ Kd.R (Kd.int .i64) 3 w' w.heap.size (fun _ => True) v0_ (sizedL 1 l0) ∧ Below w.heap.size w w' := by
  obtain ⟨q1, q2, q3⟩ := size_rem he
  have hmk := print_make 22 3 .i64 8 Tryd.underlying22 turn_info (by decide) 1 (by omega)
  simp only [Int.cast_ofNat_Int] at hmk
  have HC := Aside0.mk hr0
  have HL := Aside0.mk hl
  clear hl hr0 he
  go_enter Tryd.func14, Tryd.ntmps14
  go_wp2
  go_loopw [6] (fun v wr => ∃ (i : Nat) (xs : List Int), i ≤ 1 ∧ i ≤ m ∧ v = .int .i64 (i : Int) ∧ Aside0 (xs.length = 1) ∧ Aside0 (∀ j, j < 1 → xs.getD j 0 = if j < i then l0.getD j 0 else 0) ∧ Aside0 (wr.ownsRow w.heap.size 3 1 (.slice (some ⟨w.heap.size, 0, none⟩) 1 1) 1 (nums .i64 xs)) ∧ Aside0 (Below w.heap.size w wr)) (fun v _ => 1 - (intOf v).toNat)
  case atStart =>
    refine ⟨0, List.replicate 1 0, by omega, by omega, rfl, ⟨by simp⟩, ⟨fun j hj => by rw [if_neg (by omega), List.getD_eq_getElem?_getD, List.getElem?_replicate, if_pos hj]; rfl⟩, ⟨?_⟩, ⟨by repeat (first | exact Below.refl _ _ | apply below_alloc | apply pw_below_drewN)⟩⟩
    exact own_made w w.heap.size 3 .i64 1 (Nat.le_refl _) (by omega)
  case round =>
    obtain ⟨i, xs, hi, him, rfl, HX, HJ, HO, HB⟩ := hrel
    by_cases hlt : i < 1 ∧ i < m
    · obtain ⟨hlt, hltm⟩ := hlt
      obtain ⟨ad, rfl, hcs⟩ := sp_ad HC.out (by omega)
      have hcell := sp_cell (Kd.C_below HC.out HB.out) i hltm
      obtain ⟨⟨y, hy⟩, hfr⟩ := own_free HO.out i hlt
      obtain ⟨x, hx⟩ : ∃ x, l0.getD i 0 = x := ⟨_, rfl⟩
      rw [hx] at hcell
      have HXV := Aside0.mk hx
      clear hx hcs
      go_wp2
      go_roundw
      case rel =>
        have hst := own_store HO.out (i : Int) x
        rw [Int.toNat_natCast] at hst
        refine ⟨i + 1, _, by omega, by omega, by go_num, ⟨by rw [List.length_set, HX.out]⟩, ⟨?_⟩, ⟨hst.1⟩, ⟨Below.grown HB.out hst.2 HB.out.size (fun k hk => by injection hk with hk; omega)⟩⟩
        intro j hj
        by_cases e : j = i
        · subst e
          rw [if_pos (by omega), HXV.out, List.getD_eq_getElem?_getD, List.getElem?_set_self (by rw [HX.out]; exact hlt)]; rfl
        · have := HJ.out j hj
          rw [List.getD_eq_getElem?_getD] at this ⊢
          rw [List.getElem?_set_ne (fun h => e h.symm), this]
          by_cases h2 : j < i
          · rw [if_pos h2, if_pos (by omega)]
          · rw [if_neg h2, if_neg (by omega)]
      case measure => simp [intOf]; omega
    · have HU : Aside0 (xs = sizedL 1 l0) := ⟨by
        refine row_ext (by rw [HX.out, sizedL_length]) (fun j hj => ?_)
        rw [HX.out] at hj
        rw [HJ.out j hj, sizedL_getD _ _ _ hj]
        split
        · rfl
        · rw [List.getD_eq_getElem?_getD, List.getElem?_eq_none (by rw [HL.out]; omega)]; rfl⟩
      have hex : i = 1 ∨ i < 1 ∧ m = i := by omega
      clear hlt
      rcases hex with rfl | ⟨h1, rfl⟩
      all_goals
        go_wp2
        go_ret
        refine ⟨_, rfl, ?_, HB.out⟩
        rw [← HU.out]
        exact Kd.R_of_own (enc := Value.int .i64) (h1 := fun _ => rfl) (ok := fun _ => True) (xs := xs) (by rw [HX.out]; exact HO.out) (fun _ _ => trivial)
set_option maxHeartbeats 8000000 in
theorem sized_1 (A0 : Option Addr) (m c0 : Nat) (l0 : List Int) (a1 : Int) (w : World) (hl : l0.length = m) (hr0 : Kd.C (Kd.int .i64) w A0 m l0) (hm : m ≤ 4000000000000000000) (he : a1 % 6 = 1) :
    Calls Tryd.prog 14 #[.slice A0 m c0, .int .i64 a1] w fun e w' => ∃ v0_ : Value, e = .returned v0_ ∧ Kd.R (Kd.int .i64) 3 w' w.heap.size (fun _ => True) v0_ (sizedL 2 l0) ∧ Below w.heap.size w w' := by
  obtain ⟨q1, q2, q3⟩ := size_rem he
  have hmk := print_make 22 3 .i64 8 Tryd.underlying22 turn_info (by decide) 2 (by omega)
  simp only [Int.cast_ofNat_Int] at hmk
  have HC := Aside0.mk hr0
  have HL := Aside0.mk hl
  clear hl hr0 he
  go_enter Tryd.func14, Tryd.ntmps14
  go_wp2
  go_loopw [6] (fun v wr => ∃ (i : Nat) (xs : List Int), i ≤ 2 ∧ i ≤ m ∧ v = .int .i64 (i : Int) ∧ Aside0 (xs.length = 2) ∧ Aside0 (∀ j, j < 2 → xs.getD j 0 = if j < i then l0.getD j 0 else 0) ∧ Aside0 (wr.ownsRow w.heap.size 3 1 (.slice (some ⟨w.heap.size, 0, none⟩) 2 2) 2 (nums .i64 xs)) ∧ Aside0 (Below w.heap.size w wr)) (fun v _ => 2 - (intOf v).toNat)
  case atStart =>
    refine ⟨0, List.replicate 2 0, by omega, by omega, rfl, ⟨by simp⟩, ⟨fun j hj => by rw [if_neg (by omega), List.getD_eq_getElem?_getD, List.getElem?_replicate, if_pos hj]; rfl⟩, ⟨?_⟩, ⟨by repeat (first | exact Below.refl _ _ | apply below_alloc | apply pw_below_drewN)⟩⟩
    exact own_made w w.heap.size 3 .i64 2 (Nat.le_refl _) (by omega)
  case round =>
    obtain ⟨i, xs, hi, him, rfl, HX, HJ, HO, HB⟩ := hrel
    by_cases hlt : i < 2 ∧ i < m
    · obtain ⟨hlt, hltm⟩ := hlt
      obtain ⟨ad, rfl, hcs⟩ := sp_ad HC.out (by omega)
      have hcell := sp_cell (Kd.C_below HC.out HB.out) i hltm
      obtain ⟨⟨y, hy⟩, hfr⟩ := own_free HO.out i hlt
      obtain ⟨x, hx⟩ : ∃ x, l0.getD i 0 = x := ⟨_, rfl⟩
      rw [hx] at hcell
      have HXV := Aside0.mk hx
      clear hx hcs
      go_wp2
      go_roundw
      case rel =>
        have hst := own_store HO.out (i : Int) x
        rw [Int.toNat_natCast] at hst
        refine ⟨i + 1, _, by omega, by omega, by go_num, ⟨by rw [List.length_set, HX.out]⟩, ⟨?_⟩, ⟨hst.1⟩, ⟨Below.grown HB.out hst.2 HB.out.size (fun k hk => by injection hk with hk; omega)⟩⟩
        intro j hj
        by_cases e : j = i
        · subst e
          rw [if_pos (by omega), HXV.out, List.getD_eq_getElem?_getD, List.getElem?_set_self (by rw [HX.out]; exact hlt)]; rfl
        · have := HJ.out j hj
          rw [List.getD_eq_getElem?_getD] at this ⊢
          rw [List.getElem?_set_ne (fun h => e h.symm), this]
          by_cases h2 : j < i
          · rw [if_pos h2, if_pos (by omega)]
          · rw [if_neg h2, if_neg (by omega)]
      case measure => simp [intOf]; omega
    · have HU : Aside0 (xs = sizedL 2 l0) := ⟨by
        refine row_ext (by rw [HX.out, sizedL_length]) (fun j hj => ?_)
        rw [HX.out] at hj
        rw [HJ.out j hj, sizedL_getD _ _ _ hj]
        split
        · rfl
        · rw [List.getD_eq_getElem?_getD, List.getElem?_eq_none (by rw [HL.out]; omega)]; rfl⟩
      have hex : i = 2 ∨ i < 2 ∧ m = i := by omega
      clear hlt
      rcases hex with rfl | ⟨h1, rfl⟩
      all_goals
        go_wp2
        go_ret
        refine ⟨_, rfl, ?_, HB.out⟩
        rw [← HU.out]
        exact Kd.R_of_own (enc := Value.int .i64) (h1 := fun _ => rfl) (ok := fun _ => True) (xs := xs) (by rw [HX.out]; exact HO.out) (fun _ _ => trivial)
set_option maxHeartbeats 8000000 in
theorem sized_2 (A0 : Option Addr) (m c0 : Nat) (l0 : List Int) (a1 : Int) (w : World) (hl : l0.length = m) (hr0 : Kd.C (Kd.int .i64) w A0 m l0) (hm : m ≤ 4000000000000000000) (he : a1 % 6 = 2) :
    Calls Tryd.prog 14 #[.slice A0 m c0, .int .i64 a1] w fun e w' => ∃ v0_ : Value, e = .returned v0_ ∧ Kd.R (Kd.int .i64) 3 w' w.heap.size (fun _ => True) v0_ (sizedL 4 l0) ∧ Below w.heap.size w w' := by
  obtain ⟨q1, q2, q3⟩ := size_rem he
  have hmk := print_make 22 3 .i64 8 Tryd.underlying22 turn_info (by decide) 4 (by omega)
  simp only [Int.cast_ofNat_Int] at hmk
  have HC := Aside0.mk hr0
  have HL := Aside0.mk hl
  clear hl hr0 he
  go_enter Tryd.func14, Tryd.ntmps14
  go_wp2
  go_loopw [6] (fun v wr => ∃ (i : Nat) (xs : List Int), i ≤ 4 ∧ i ≤ m ∧ v = .int .i64 (i : Int) ∧ Aside0 (xs.length = 4) ∧ Aside0 (∀ j, j < 4 → xs.getD j 0 = if j < i then l0.getD j 0 else 0) ∧ Aside0 (wr.ownsRow w.heap.size 3 1 (.slice (some ⟨w.heap.size, 0, none⟩) 4 4) 4 (nums .i64 xs)) ∧ Aside0 (Below w.heap.size w wr)) (fun v _ => 4 - (intOf v).toNat)
  case atStart =>
    refine ⟨0, List.replicate 4 0, by omega, by omega, rfl, ⟨by simp⟩, ⟨fun j hj => by rw [if_neg (by omega), List.getD_eq_getElem?_getD, List.getElem?_replicate, if_pos hj]; rfl⟩, ⟨?_⟩, ⟨by repeat (first | exact Below.refl _ _ | apply below_alloc | apply pw_below_drewN)⟩⟩
    exact own_made w w.heap.size 3 .i64 4 (Nat.le_refl _) (by omega)
  case round =>
    obtain ⟨i, xs, hi, him, rfl, HX, HJ, HO, HB⟩ := hrel
    by_cases hlt : i < 4 ∧ i < m
    · obtain ⟨hlt, hltm⟩ := hlt
      obtain ⟨ad, rfl, hcs⟩ := sp_ad HC.out (by omega)
      have hcell := sp_cell (Kd.C_below HC.out HB.out) i hltm
      obtain ⟨⟨y, hy⟩, hfr⟩ := own_free HO.out i hlt
      obtain ⟨x, hx⟩ : ∃ x, l0.getD i 0 = x := ⟨_, rfl⟩
      rw [hx] at hcell
      have HXV := Aside0.mk hx
      clear hx hcs
      go_wp2
      go_roundw
      case rel =>
        have hst := own_store HO.out (i : Int) x
        rw [Int.toNat_natCast] at hst
        refine ⟨i + 1, _, by omega, by omega, by go_num, ⟨by rw [List.length_set, HX.out]⟩, ⟨?_⟩, ⟨hst.1⟩, ⟨Below.grown HB.out hst.2 HB.out.size (fun k hk => by injection hk with hk; omega)⟩⟩
        intro j hj
        by_cases e : j = i
        · subst e
          rw [if_pos (by omega), HXV.out, List.getD_eq_getElem?_getD, List.getElem?_set_self (by rw [HX.out]; exact hlt)]; rfl
        · have := HJ.out j hj
          rw [List.getD_eq_getElem?_getD] at this ⊢
          rw [List.getElem?_set_ne (fun h => e h.symm), this]
          by_cases h2 : j < i
          · rw [if_pos h2, if_pos (by omega)]
          · rw [if_neg h2, if_neg (by omega)]
      case measure => simp [intOf]; omega
    · have HU : Aside0 (xs = sizedL 4 l0) := ⟨by
        refine row_ext (by rw [HX.out, sizedL_length]) (fun j hj => ?_)
        rw [HX.out] at hj
        rw [HJ.out j hj, sizedL_getD _ _ _ hj]
        split
        · rfl
        · rw [List.getD_eq_getElem?_getD, List.getElem?_eq_none (by rw [HL.out]; omega)]; rfl⟩
      have hex : i = 4 ∨ i < 4 ∧ m = i := by omega
      clear hlt
      rcases hex with rfl | ⟨h1, rfl⟩
      all_goals
        go_wp2
        go_ret
        refine ⟨_, rfl, ?_, HB.out⟩
        rw [← HU.out]
        exact Kd.R_of_own (enc := Value.int .i64) (h1 := fun _ => rfl) (ok := fun _ => True) (xs := xs) (by rw [HX.out]; exact HO.out) (fun _ _ => trivial)
set_option maxHeartbeats 8000000 in
theorem sized_3 (A0 : Option Addr) (m c0 : Nat) (l0 : List Int) (a1 : Int) (w : World) (hl : l0.length = m) (hr0 : Kd.C (Kd.int .i64) w A0 m l0) (hm : m ≤ 4000000000000000000) (he : a1 % 6 = 3) :
    Calls Tryd.prog 14 #[.slice A0 m c0, .int .i64 a1] w fun e w' => ∃ v0_ : Value, e = .returned v0_ ∧ Kd.R (Kd.int .i64) 3 w' w.heap.size (fun _ => True) v0_ (sizedL 8 l0) ∧ Below w.heap.size w w' := by
  obtain ⟨q1, q2, q3⟩ := size_rem he
  have hmk := print_make 22 3 .i64 8 Tryd.underlying22 turn_info (by decide) 8 (by omega)
  simp only [Int.cast_ofNat_Int] at hmk
  have HC := Aside0.mk hr0
  have HL := Aside0.mk hl
  clear hl hr0 he
  go_enter Tryd.func14, Tryd.ntmps14
  go_wp2
  go_loopw [6] (fun v wr => ∃ (i : Nat) (xs : List Int), i ≤ 8 ∧ i ≤ m ∧ v = .int .i64 (i : Int) ∧ Aside0 (xs.length = 8) ∧ Aside0 (∀ j, j < 8 → xs.getD j 0 = if j < i then l0.getD j 0 else 0) ∧ Aside0 (wr.ownsRow w.heap.size 3 1 (.slice (some ⟨w.heap.size, 0, none⟩) 8 8) 8 (nums .i64 xs)) ∧ Aside0 (Below w.heap.size w wr)) (fun v _ => 8 - (intOf v).toNat)
  case atStart =>
    refine ⟨0, List.replicate 8 0, by omega, by omega, rfl, ⟨by simp⟩, ⟨fun j hj => by rw [if_neg (by omega), List.getD_eq_getElem?_getD, List.getElem?_replicate, if_pos hj]; rfl⟩, ⟨?_⟩, ⟨by repeat (first | exact Below.refl _ _ | apply below_alloc | apply pw_below_drewN)⟩⟩
    exact own_made w w.heap.size 3 .i64 8 (Nat.le_refl _) (by omega)
  case round =>
    obtain ⟨i, xs, hi, him, rfl, HX, HJ, HO, HB⟩ := hrel
    by_cases hlt : i < 8 ∧ i < m
    · obtain ⟨hlt, hltm⟩ := hlt
      obtain ⟨ad, rfl, hcs⟩ := sp_ad HC.out (by omega)
      have hcell := sp_cell (Kd.C_below HC.out HB.out) i hltm
      obtain ⟨⟨y, hy⟩, hfr⟩ := own_free HO.out i hlt
      obtain ⟨x, hx⟩ : ∃ x, l0.getD i 0 = x := ⟨_, rfl⟩
      rw [hx] at hcell
      have HXV := Aside0.mk hx
      clear hx hcs
      go_wp2
      go_roundw
      case rel =>
        have hst := own_store HO.out (i : Int) x
        rw [Int.toNat_natCast] at hst
        refine ⟨i + 1, _, by omega, by omega, by go_num, ⟨by rw [List.length_set, HX.out]⟩, ⟨?_⟩, ⟨hst.1⟩, ⟨Below.grown HB.out hst.2 HB.out.size (fun k hk => by injection hk with hk; omega)⟩⟩
        intro j hj
        by_cases e : j = i
        · subst e
          rw [if_pos (by omega), HXV.out, List.getD_eq_getElem?_getD, List.getElem?_set_self (by rw [HX.out]; exact hlt)]; rfl
        · have := HJ.out j hj
          rw [List.getD_eq_getElem?_getD] at this ⊢
          rw [List.getElem?_set_ne (fun h => e h.symm), this]
          by_cases h2 : j < i
          · rw [if_pos h2, if_pos (by omega)]
          · rw [if_neg h2, if_neg (by omega)]
      case measure => simp [intOf]; omega
    · have HU : Aside0 (xs = sizedL 8 l0) := ⟨by
        refine row_ext (by rw [HX.out, sizedL_length]) (fun j hj => ?_)
        rw [HX.out] at hj
        rw [HJ.out j hj, sizedL_getD _ _ _ hj]
        split
        · rfl
        · rw [List.getD_eq_getElem?_getD, List.getElem?_eq_none (by rw [HL.out]; omega)]; rfl⟩
      have hex : i = 8 ∨ i < 8 ∧ m = i := by omega
      clear hlt
      rcases hex with rfl | ⟨h1, rfl⟩
      all_goals
        go_wp2
        go_ret
        refine ⟨_, rfl, ?_, HB.out⟩
        rw [← HU.out]
        exact Kd.R_of_own (enc := Value.int .i64) (h1 := fun _ => rfl) (ok := fun _ => True) (xs := xs) (by rw [HX.out]; exact HO.out) (fun _ _ => trivial)
set_option maxHeartbeats 8000000 in
theorem sized_4 (A0 : Option Addr) (m c0 : Nat) (l0 : List Int) (a1 : Int) (w : World) (hl : l0.length = m) (hr0 : Kd.C (Kd.int .i64) w A0 m l0) (hm : m ≤ 4000000000000000000) (he : a1 % 6 = 4) :
    Calls Tryd.prog 14 #[.slice A0 m c0, .int .i64 a1] w fun e w' => ∃ v0_ : Value, e = .returned v0_ ∧ Kd.R (Kd.int .i64) 3 w' w.heap.size (fun _ => True) v0_ (sizedL 16 l0) ∧ Below w.heap.size w w' := by
  obtain ⟨q1, q2, q3⟩ := size_rem he
  have hmk := print_make 22 3 .i64 8 Tryd.underlying22 turn_info (by decide) 16 (by omega)
  simp only [Int.cast_ofNat_Int] at hmk
  have HC := Aside0.mk hr0
  have HL := Aside0.mk hl
  clear hl hr0 he
  go_enter Tryd.func14, Tryd.ntmps14
  go_wp2
  go_loopw [6] (fun v wr => ∃ (i : Nat) (xs : List Int), i ≤ 16 ∧ i ≤ m ∧ v = .int .i64 (i : Int) ∧ Aside0 (xs.length = 16) ∧ Aside0 (∀ j, j < 16 → xs.getD j 0 = if j < i then l0.getD j 0 else 0) ∧ Aside0 (wr.ownsRow w.heap.size 3 1 (.slice (some ⟨w.heap.size, 0, none⟩) 16 16) 16 (nums .i64 xs)) ∧ Aside0 (Below w.heap.size w wr)) (fun v _ => 16 - (intOf v).toNat)
  case atStart =>
    refine ⟨0, List.replicate 16 0, by omega, by omega, rfl, ⟨by simp⟩, ⟨fun j hj => by rw [if_neg (by omega), List.getD_eq_getElem?_getD, List.getElem?_replicate, if_pos hj]; rfl⟩, ⟨?_⟩, ⟨by repeat (first | exact Below.refl _ _ | apply below_alloc | apply pw_below_drewN)⟩⟩
    exact own_made w w.heap.size 3 .i64 16 (Nat.le_refl _) (by omega)
  case round =>
    obtain ⟨i, xs, hi, him, rfl, HX, HJ, HO, HB⟩ := hrel
    by_cases hlt : i < 16 ∧ i < m
    · obtain ⟨hlt, hltm⟩ := hlt
      obtain ⟨ad, rfl, hcs⟩ := sp_ad HC.out (by omega)
      have hcell := sp_cell (Kd.C_below HC.out HB.out) i hltm
      obtain ⟨⟨y, hy⟩, hfr⟩ := own_free HO.out i hlt
      obtain ⟨x, hx⟩ : ∃ x, l0.getD i 0 = x := ⟨_, rfl⟩
      rw [hx] at hcell
      have HXV := Aside0.mk hx
      clear hx hcs
      go_wp2
      go_roundw
      case rel =>
        have hst := own_store HO.out (i : Int) x
        rw [Int.toNat_natCast] at hst
        refine ⟨i + 1, _, by omega, by omega, by go_num, ⟨by rw [List.length_set, HX.out]⟩, ⟨?_⟩, ⟨hst.1⟩, ⟨Below.grown HB.out hst.2 HB.out.size (fun k hk => by injection hk with hk; omega)⟩⟩
        intro j hj
        by_cases e : j = i
        · subst e
          rw [if_pos (by omega), HXV.out, List.getD_eq_getElem?_getD, List.getElem?_set_self (by rw [HX.out]; exact hlt)]; rfl
        · have := HJ.out j hj
          rw [List.getD_eq_getElem?_getD] at this ⊢
          rw [List.getElem?_set_ne (fun h => e h.symm), this]
          by_cases h2 : j < i
          · rw [if_pos h2, if_pos (by omega)]
          · rw [if_neg h2, if_neg (by omega)]
      case measure => simp [intOf]; omega
    · have HU : Aside0 (xs = sizedL 16 l0) := ⟨by
        refine row_ext (by rw [HX.out, sizedL_length]) (fun j hj => ?_)
        rw [HX.out] at hj
        rw [HJ.out j hj, sizedL_getD _ _ _ hj]
        split
        · rfl
        · rw [List.getD_eq_getElem?_getD, List.getElem?_eq_none (by rw [HL.out]; omega)]; rfl⟩
      have hex : i = 16 ∨ i < 16 ∧ m = i := by omega
      clear hlt
      rcases hex with rfl | ⟨h1, rfl⟩
      all_goals
        go_wp2
        go_ret
        refine ⟨_, rfl, ?_, HB.out⟩
        rw [← HU.out]
        exact Kd.R_of_own (enc := Value.int .i64) (h1 := fun _ => rfl) (ok := fun _ => True) (xs := xs) (by rw [HX.out]; exact HO.out) (fun _ _ => trivial)
set_option maxHeartbeats 8000000 in
theorem sized_5 (A0 : Option Addr) (m c0 : Nat) (l0 : List Int) (a1 : Int) (w : World) (hl : l0.length = m) (hr0 : Kd.C (Kd.int .i64) w A0 m l0) (hm : m ≤ 4000000000000000000) (he : a1 % 6 = 5) :
    Calls Tryd.prog 14 #[.slice A0 m c0, .int .i64 a1] w fun e w' => ∃ v0_ : Value, e = .returned v0_ ∧ Kd.R (Kd.int .i64) 3 w' w.heap.size (fun _ => True) v0_ (sizedL 32 l0) ∧ Below w.heap.size w w' := by
  obtain ⟨q1, q2, q3⟩ := size_rem he
  have hmk := print_make 22 3 .i64 8 Tryd.underlying22 turn_info (by decide) 32 (by omega)
  simp only [Int.cast_ofNat_Int] at hmk
  have HC := Aside0.mk hr0
  have HL := Aside0.mk hl
  clear hl hr0 he
  go_enter Tryd.func14, Tryd.ntmps14
  go_wp2
  go_loopw [6] (fun v wr => ∃ (i : Nat) (xs : List Int), i ≤ 32 ∧ i ≤ m ∧ v = .int .i64 (i : Int) ∧ Aside0 (xs.length = 32) ∧ Aside0 (∀ j, j < 32 → xs.getD j 0 = if j < i then l0.getD j 0 else 0) ∧ Aside0 (wr.ownsRow w.heap.size 3 1 (.slice (some ⟨w.heap.size, 0, none⟩) 32 32) 32 (nums .i64 xs)) ∧ Aside0 (Below w.heap.size w wr)) (fun v _ => 32 - (intOf v).toNat)
  case atStart =>
    refine ⟨0, List.replicate 32 0, by omega, by omega, rfl, ⟨by simp⟩, ⟨fun j hj => by rw [if_neg (by omega), List.getD_eq_getElem?_getD, List.getElem?_replicate, if_pos hj]; rfl⟩, ⟨?_⟩, ⟨by repeat (first | exact Below.refl _ _ | apply below_alloc | apply pw_below_drewN)⟩⟩
    exact own_made w w.heap.size 3 .i64 32 (Nat.le_refl _) (by omega)
  case round =>
    obtain ⟨i, xs, hi, him, rfl, HX, HJ, HO, HB⟩ := hrel
    by_cases hlt : i < 32 ∧ i < m
    · obtain ⟨hlt, hltm⟩ := hlt
      obtain ⟨ad, rfl, hcs⟩ := sp_ad HC.out (by omega)
      have hcell := sp_cell (Kd.C_below HC.out HB.out) i hltm
      obtain ⟨⟨y, hy⟩, hfr⟩ := own_free HO.out i hlt
      obtain ⟨x, hx⟩ : ∃ x, l0.getD i 0 = x := ⟨_, rfl⟩
      rw [hx] at hcell
      have HXV := Aside0.mk hx
      clear hx hcs
      go_wp2
      go_roundw
      case rel =>
        have hst := own_store HO.out (i : Int) x
        rw [Int.toNat_natCast] at hst
        refine ⟨i + 1, _, by omega, by omega, by go_num, ⟨by rw [List.length_set, HX.out]⟩, ⟨?_⟩, ⟨hst.1⟩, ⟨Below.grown HB.out hst.2 HB.out.size (fun k hk => by injection hk with hk; omega)⟩⟩
        intro j hj
        by_cases e : j = i
        · subst e
          rw [if_pos (by omega), HXV.out, List.getD_eq_getElem?_getD, List.getElem?_set_self (by rw [HX.out]; exact hlt)]; rfl
        · have := HJ.out j hj
          rw [List.getD_eq_getElem?_getD] at this ⊢
          rw [List.getElem?_set_ne (fun h => e h.symm), this]
          by_cases h2 : j < i
          · rw [if_pos h2, if_pos (by omega)]
          · rw [if_neg h2, if_neg (by omega)]
      case measure => simp [intOf]; omega
    · have HU : Aside0 (xs = sizedL 32 l0) := ⟨by
        refine row_ext (by rw [HX.out, sizedL_length]) (fun j hj => ?_)
        rw [HX.out] at hj
        rw [HJ.out j hj, sizedL_getD _ _ _ hj]
        split
        · rfl
        · rw [List.getD_eq_getElem?_getD, List.getElem?_eq_none (by rw [HL.out]; omega)]; rfl⟩
      have hex : i = 32 ∨ i < 32 ∧ m = i := by omega
      clear hlt
      rcases hex with rfl | ⟨h1, rfl⟩
      all_goals
        go_wp2
        go_ret
        refine ⟨_, rfl, ?_, HB.out⟩
        rw [← HU.out]
        exact Kd.R_of_own (enc := Value.int .i64) (h1 := fun _ => rfl) (ok := fun _ => True) (xs := xs) (by rw [HX.out]; exact HO.out) (fun _ _ => trivial)
theorem earshotlaw09_sized.calls (A0 : Option Addr) (c0 : Nat) (l0 : List Int) (a1 : Int) (r : List Int) (w : World) (hr0 : Kd.C (Kd.int .i64) w A0 l0.length l0) (hc0 : l0.length ≤ c0) (h : earshotlaw09_sized.f l0 a1 = some r) :
    Calls Tryd.prog 14 #[.slice A0 l0.length c0, .int .i64 a1] w fun e w' => ∃ v0_ : Value, e = .returned v0_ ∧ Kd.R (Kd.int .i64) 3 w' w.heap.size (fun _ => True) v0_ r ∧ Below w.heap.size w w' := by
  unfold earshotlaw09_sized.f at h
  split at h
  case isFalse => cases h
  rename_i hz
  obtain rfl := Option.some.inj h
  simp only [decide_eq_true_eq] at hz
  have m0 := Int.emod_nonneg a1 (show (6 : Int) ≠ 0 by decide)
  have m1 := Int.emod_lt_of_pos a1 (show (0 : Int) < 6 by decide)
  have hc : a1 % 6 = 0 ∨ a1 % 6 = 1 ∨ a1 % 6 = 2 ∨ a1 % 6 = 3 ∨ a1 % 6 = 4 ∨ a1 % 6 = 5 := by omega
  rcases hc with he | he | he | he | he | he
  · have hs : sizeOf_ a1 = 1 := by unfold sizeOf_; rw [he]; rfl
    rw [hs]
    exact sized_0 A0 _ c0 l0 a1 w rfl hr0 hz he
  · have hs : sizeOf_ a1 = 2 := by unfold sizeOf_; rw [he]; rfl
    rw [hs]
    exact sized_1 A0 _ c0 l0 a1 w rfl hr0 hz he
  · have hs : sizeOf_ a1 = 4 := by unfold sizeOf_; rw [he]; rfl
    rw [hs]
    exact sized_2 A0 _ c0 l0 a1 w rfl hr0 hz he
  · have hs : sizeOf_ a1 = 8 := by unfold sizeOf_; rw [he]; rfl
    rw [hs]
    exact sized_3 A0 _ c0 l0 a1 w rfl hr0 hz he
  · have hs : sizeOf_ a1 = 16 := by unfold sizeOf_; rw [he]; rfl
    rw [hs]
    exact sized_4 A0 _ c0 l0 a1 w rfl hr0 hz he
  · have hs : sizeOf_ a1 = 32 := by unfold sizeOf_; rw [he]; rfl
    rw [hs]
    exact sized_5 A0 _ c0 l0 a1 w rfl hr0 hz he

/-! ### earshotlaw09_few: function 18 -/
def earshotlaw09_few.f (l0 : List Int) : Option (List Int) := some (l0.take 40)
theorem few_go (A0 : Option Addr) (n c0 : Nat) (w : World) (hn : n ≤ c0) : Calls Tryd.prog 18 #[.slice A0 n c0] w fun e w' => e = .returned (.slice A0 (min 40 n) c0) ∧ w = w' := by
  by_cases h : 40 < n
  · have hc : 40 ≤ c0 := by omega
    have e : min 40 n = 40 := by omega
    rw [e]
    clear e
    go_enter Tryd.func18, Tryd.ntmps18
    go_wp2
    go_ret
    exact ⟨rfl, rfl⟩
  · have e : min 40 n = n := by omega
    rw [e]
    have h' : n ≤ 40 := by omega
    clear e h
    go_enter Tryd.func18, Tryd.ntmps18
    go_wp2
    go_ret
    exact ⟨rfl, rfl⟩

-- NOT PRINTED: function 37 (spin_each_int)

-- NOT PRINTED: function 38 (spin_Add_1)

/-! ### spin_Add: function 20 -/
theorem add_one (x y : Int) (w : World) : Calls Tryd.prog 38 #[.int .i64 x, .int .i64 y] w fun e w' => e = .returned (.int .i64 (wrap64 (x + y))) ∧ w = w' := by
  go_enter Tryd.func38, Tryd.ntmps38
  go_wp2
  go_ret
  exact ⟨rfl, rfl⟩
set_option maxHeartbeats 8000000 in
theorem each_add (A0 A1 : Option Addr) (n c0 m c1 : Nat) (l0 l1 : List Int) (w : World) (hl0 : l0.length = n) (hr0 : Kd.C (Kd.int .i64) w A0 n l0) (hl1 : l1.length = m) (hr1 : Kd.C (Kd.int .i64) w A1 m l1) (hn : n ≤ 1000000) (hm : m ≤ 1000000) :
    Calls Tryd.prog 37 #[.slice A0 n c0, .slice A1 m c1, .func (.func 38) #[] #[]] w fun e w' => ∃ v0_ : Value, e = .returned v0_ ∧ Kd.R (Kd.int .i64) 3 w' w.heap.size (fun _ => True) v0_ (addL l0 l1) ∧ Below w.heap.size w w' := by
  have hmk := print_make 22 3 .i64 8 Tryd.underlying22 turn_info (by decide) n (by omega)
  have HL0 := Aside0.mk hl0
  have HL1 := Aside0.mk hl1
  have HC0 := Aside0.mk hr0
  have HC1 := Aside0.mk hr1
  by_cases hnm : n = m
  · have HU : Aside0 (∀ xs : List Int, xs.length = n → (∀ j, j < n → xs.getD j 0 = wrap64 (l0.getD j 0 + l1.getD j 0)) → xs = addL l0 l1) := ⟨fun xs hx hj => by
      have e : l0.length = l1.length := by omega
      refine row_ext (by rw [addL_length e, hx, hl0]) (fun i hi => ?_)
      rw [hj i (by omega), addL_getD e i (by omega)]⟩
    subst hnm
    clear hl0 hl1 hr0 hr1
    go_enter Tryd.func37, Tryd.ntmps37
    go_wp2
    go_loopw [20] (fun v wr => ∃ (i : Nat) (xs : List Int), i ≤ n ∧ v = .int .i64 (i : Int) ∧ Aside0 (xs.length = n) ∧ Aside0 (∀ j, j < i → xs.getD j 0 = wrap64 (l0.getD j 0 + l1.getD j 0)) ∧ Aside0 (wr.ownsRow w.heap.size 3 1 (.slice (some ⟨w.heap.size, 0, none⟩) n n) n (nums .i64 xs)) ∧ Aside0 (Below w.heap.size w wr)) (fun v _ => n - (intOf v).toNat)
    case atStart =>
      refine ⟨0, List.replicate n 0, by omega, rfl, ⟨by simp⟩, ⟨fun j hj => by omega⟩, ⟨?_⟩, ⟨by repeat (first | exact Below.refl _ _ | apply below_alloc | apply pw_below_drewN)⟩⟩
      exact own_made w w.heap.size 3 .i64 n (Nat.le_refl _) (by omega)
    case round =>
      obtain ⟨i, xs, hi, rfl, HX, HJ, HO, HB⟩ := hrel
      by_cases hlt : i < n
      · obtain ⟨ad, rfl, hcs⟩ := sp_ad HC0.out (by omega)
        obtain ⟨ad1, rfl, hcs1⟩ := sp_ad HC1.out (by omega)
        have hcell := sp_cell (Kd.C_below HC0.out HB.out) i hlt
        have hcell1 := sp_cell (Kd.C_below HC1.out HB.out) i hlt
        obtain ⟨⟨y, hy⟩, hfr⟩ := own_free HO.out i hlt
        obtain ⟨x0, hx0⟩ : ∃ x, l0.getD i 0 = x := ⟨_, rfl⟩
        obtain ⟨x1, hx1⟩ : ∃ x, l1.getD i 0 = x := ⟨_, rfl⟩
        rw [hx0] at hcell
        rw [hx1] at hcell1
        have HX0 := Aside0.mk hx0
        have HX1 := Aside0.mk hx1
        clear hcs hcs1 hx0 hx1
        go_wp2_with (go_at_call 38; (with_reducible refine (add_one x0 x1 _).mono ?_); rintro e w' ⟨rfl, rfl⟩)
        go_roundw
        case rel =>
          have hst := own_store HO.out (i : Int) (wrap64 (x0 + x1))
          rw [Int.toNat_natCast] at hst
          refine ⟨i + 1, _, by omega, by go_num, ⟨by rw [List.length_set, HX.out]⟩, ⟨?_⟩, ⟨hst.1⟩, ⟨Below.grown HB.out hst.2 HB.out.size (fun k hk => by injection hk with hk; omega)⟩⟩
          intro j hj
          by_cases e : j = i
          · subst e
            rw [List.getD_eq_getElem?_getD, List.getElem?_set_self (by rw [HX.out]; exact hlt), HX0.out, HX1.out]; rfl
          · have := HJ.out j (by omega)
            rw [List.getD_eq_getElem?_getD] at this ⊢
            rw [List.getElem?_set_ne (fun h => e h.symm)]
            exact this
        case measure => simp [intOf]; omega
      · obtain rfl : n = i := by omega
        go_wp2
        go_ret
        refine ⟨_, rfl, ?_, HB.out⟩
        rw [← HU.out xs HX.out HJ.out]
        exact Kd.R_of_own (enc := Value.int .i64) (h1 := fun _ => rfl) (ok := fun _ => True) (xs := xs) (by rw [HX.out]; exact HO.out) (fun _ _ => trivial)
  · have hd : ((n : Int) != (m : Int)) = true := by simp; omega
    have HE : Aside0 (addL l0 l1 = []) := ⟨by unfold addL; rw [if_neg (by omega)]⟩
    clear hnm hl0 hl1 hr0 hr1
    go_enter Tryd.func37, Tryd.ntmps37
    go_wp2
    go_ret
    exact ⟨_, rfl, by rw [HE.out]; exact Kd.R_nil _ _ _ _ _, by repeat (first | exact Below.refl _ _ | apply below_alloc | apply pw_below_drewN)⟩
def addGo (h : Nat) : List (List Int) → List Int → List Int
  | [], o => o
  | v :: vs, o => if (addL o v).length = h then addGo h vs (addL o v) else []
def addAll : List (List Int) → List Int
  | [] => []
  | v :: vs => addGo v.length (v :: vs) (List.replicate v.length 0)
theorem row_at {w : World} {A : Option Addr} {n e : Nat} {vs : List (List Int)} (h : (Kd.slice e (Kd.int .i64)).C w A n vs) (j : Nat) (hj : j < n) :
    ∃ ad B c, A = some ad ∧ w.cell? (ad.add j) = some (.slice B (vs.getD j []).length c) ∧ (vs.getD j []).length ≤ c ∧ (Kd.int .i64).C w B (vs.getD j []).length (vs.getD j []) := by
  obtain ⟨ad, c, ha, hs, ⟨B, cp, hc, hle, hC⟩, hcell⟩ := ReadsRow.get_ h [] (j : Int) (by omega) (by omega)
  rw [Int.toNat_natCast] at hc hle hC hcell
  refine ⟨ad, B, cp, ha, ?_, hle, hC⟩
  have := hcell 0 (.slice B (vs.getD j []).length cp) (by rw [hc]; rfl)
  rwa [show j * (Kd.slice e (Kd.int .i64)).sz + 0 = j from by show j * 1 + 0 = j; omega] at this
def add_ok (vs : List (List Int)) : Bool := decide (vs.length ≤ 1000000) && vs.all fun v => decide (v.length ≤ 1000000)
def spin_Add.f (l0 : List (List Int)) : Option (List Int) := if add_ok l0 = true then some (addAll l0) else none
set_option maxHeartbeats 8000000 in
theorem add_go (A0 : Option Addr) (m c0 : Nat) (vs : List (List Int)) (w : World) (hl : vs.length = m) (hr0 : Kd.C (Kd.slice 3 (Kd.int .i64)) w A0 m vs) (hm : m ≤ 1000000) (hv : ∀ v ∈ vs, v.length ≤ 1000000) :
    Calls Tryd.prog 20 #[.slice A0 m c0] w fun e w' => ∃ v0_ : Value, e = .returned v0_ ∧ Kd.R (Kd.int .i64) 3 w' w.heap.size (fun _ => True) v0_ (addAll vs) ∧ Below w.heap.size w w' := by
  rcases Nat.eq_zero_or_pos m with h0 | h0
  · subst h0
    have HE : Aside0 (addAll vs = []) := ⟨by rw [List.eq_nil_of_length_eq_zero hl]; rfl⟩
    clear hl hr0 hv
    go_enter Tryd.func20, Tryd.ntmps20
    go_wp2
    go_ret
    exact ⟨_, rfl, by rw [HE.out]; exact Kd.R_nil _ _ _ _ _, by repeat (first | exact Below.refl _ _ | apply below_alloc | apply pw_below_drewN)⟩
  · obtain ⟨ad, B0, b0, rfl, hc0, _, _⟩ := row_at hr0 0 h0
    obtain ⟨h, hh⟩ : ∃ h, (vs.getD 0 []).length = h := ⟨_, rfl⟩
    rw [hh] at hc0
    have hmem : ∀ j, j < m → (vs.getD j []).length ≤ 1000000 := fun j hj => by
      rw [List.getD_eq_getElem?_getD, List.getElem?_eq_getElem (by omega)]
      exact hv _ (List.getElem_mem _)
    have hh1 : h ≤ 1000000 := by rw [← hh]; exact hmem 0 h0
    have hst : addGo h vs (List.replicate h 0) = addAll vs := by
      cases vs with
      | nil => simp at hl; omega
      | cons v vs => rw [← hh]; rfl
    have hmk := print_make 22 3 .i64 8 Tryd.underlying22 turn_info (by decide) h (by omega)
    have HL := Aside0.mk hl
    have HC := Aside0.mk hr0
    have HM := Aside0.mk hmem
    have HST := Aside0.mk hst
    rw [show ad.add 0 = ad by simp [Addr.add]] at hc0
    have HC0 := Aside0.mk hc0
    have hm0 : ((m : Int) == 0) = false := by simp; omega
    clear hl hr0 hv hmem hst hh
    go_enter Tryd.func20, Tryd.ntmps20
    go_wp2
    clear hc0
    go_loopw [3, 16] (fun v3 v wr => ∃ (i : Nat) (o : List Int), i ≤ m ∧ v = .int .i64 (i : Int) ∧ Aside0 (o.length = h) ∧ Aside0 (addGo h (vs.drop i) o = addAll vs) ∧ Aside0 (Kd.R (Kd.int .i64) 3 wr w.heap.size (fun _ => True) v3 o) ∧ Aside0 (Below w.heap.size w wr)) (fun _ v _ => m - (intOf v).toNat)
    case atStart =>
      refine ⟨0, List.replicate h 0, by omega, rfl, ⟨by simp⟩, HST, ⟨?_⟩, ⟨by repeat (first | exact Below.refl _ _ | apply below_alloc | apply pw_below_drewN)⟩⟩
      have := own_made w w.heap.size 3 .i64 h (Nat.le_refl _) (by omega)
      exact Kd.R_of_own (enc := Value.int .i64) (h1 := fun _ => rfl) (ok := fun _ => True) (xs := List.replicate h 0) (by rw [List.length_replicate]; exact this) (fun _ _ => trivial)
    case round =>
      obtain ⟨i, o, hi, rfl, HO, HG, HR, HB⟩ := hrel
      by_cases hlt : i < m
      · obtain ⟨ad', B, b, he, hcell, _, hCB⟩ := row_at (Kd.C_below HC.out HB.out) i hlt
        obtain rfl := Option.some.inj he
        obtain ⟨v, hvv⟩ : ∃ v, vs.getD i [] = v := ⟨_, rfl⟩
        have hvl := HM.out i hlt
        rw [hvv] at hcell hCB hvl
        have hdrop : vs.drop i = v :: vs.drop (i + 1) := by
          rw [List.drop_eq_getElem_cons (by rw [HL.out]; exact hlt), ← hvv, List.getD_eq_getElem?_getD, List.getElem?_eq_getElem (by rw [HL.out]; exact hlt)]
          rfl
        obtain ⟨q, hq⟩ : ∃ q, v.length = q := ⟨_, rfl⟩
        rw [hq] at hcell hCB hvl
        obtain ⟨A3, c3, rfl, _, hC3⟩ := Kd.R_reads HR.out
        rw [HO.out] at hC3 ⊢
        have HC3 := Aside0.mk hC3
        have HCB := Aside0.mk hCB
        have HQ := Aside0.mk hq
        have HD := Aside0.mk hdrop
        clear hvv hdrop hq hC3 hCB he
        by_cases hz : (addL o v).length = h
        · have HZ := Aside0.mk hz
          clear hz
          go_wp2_with (go_at_call 37; (with_reducible refine (each_add A3 B h c3 q b o v _ HO.out HC3.out HQ.out HCB.out hh1 hvl).mono ?_); rintro e w2 ⟨v4, rfl, hR, hb⟩; obtain ⟨A4, c4, rfl, _, _⟩ := Kd.R_reads hR; have HR4 := Aside0.mk (Kd.R_lower hR HB.out.size); have HB4 := Aside0.mk (below_step HB.out hb); clear hR hb; have hc1 := pw_cell_below HB4.out HC0.out; rw [HZ.out] at HR4 ⊢)
          go_roundw
          case rel => exact ⟨i + 1, _, by omega, by go_num, HZ, ⟨by rw [← HG.out, HD.out, addGo, if_pos HZ.out]⟩, HR4, HB4⟩
          case measure => simp [intOf]; omega
        · obtain ⟨z, hz2⟩ : ∃ z, (addL o v).length = z := ⟨_, rfl⟩
          rw [hz2] at hz
          have HE : Aside0 (addAll vs = []) := ⟨by rw [← HG.out, HD.out, addGo, if_neg (by rw [hz2]; exact hz)]⟩
          have hd : ((z : Int) != (h : Int)) = true := by simp; omega
          have HZ := Aside0.mk hz2
          clear hz hz2
          go_wp2_with (go_at_call 37; (with_reducible refine (each_add A3 B h c3 q b o v _ HO.out HC3.out HQ.out HCB.out hh1 hvl).mono ?_); rintro e w2 ⟨v4, rfl, hR, hb⟩; obtain ⟨A4, c4, rfl, _, _⟩ := Kd.R_reads hR; have HB4 := Aside0.mk (below_step HB.out hb); clear hR hb; have hc1 := pw_cell_below HB4.out HC0.out; rw [HZ.out])
          go_ret
          exact ⟨_, rfl, by rw [HE.out]; exact Kd.R_nil _ _ _ _ _, HB4.out⟩
      · obtain rfl : m = i := by omega
        go_wp2
        go_ret
        refine ⟨_, rfl, ?_, HB.out⟩
        have hg := HG.out
        rw [← HL.out, List.drop_length, addGo] at hg
        rw [← hg]
        exact HR.out
theorem spin_Add.calls (A0 : Option Addr) (c0 : Nat) (l0 : List (List Int)) (r : List Int) (w : World) (hr0 : Kd.C (Kd.slice 3 (Kd.int .i64)) w A0 l0.length l0) (hc0 : l0.length ≤ c0) (h : spin_Add.f l0 = some r) :
    Calls Tryd.prog 20 #[.slice A0 l0.length c0] w fun e w' => ∃ v0_ : Value, e = .returned v0_ ∧ Kd.R (Kd.int .i64) 3 w' w.heap.size (fun _ => True) v0_ r ∧ Below w.heap.size w w' := by
  unfold spin_Add.f at h
  split at h
  case isFalse => cases h
  rename_i hz
  obtain rfl := Option.some.inj h
  simp only [add_ok, Bool.and_eq_true, decide_eq_true_eq, List.all_eq_true] at hz
  exact add_go A0 _ c0 l0 w rfl hr0 hz.1 hz.2

-- NOT PRINTED: function 44 (spin_Less_1)

/-! ### spin_Less: function 22 -/
theorem less_one (x y : Int) (w : World) : Calls Tryd.prog 44 #[.int .i64 x, .int .i64 y] w fun e w' => e = .returned (.int .i64 (wrap64 (x - y))) ∧ w = w' := by
  go_enter Tryd.func44, Tryd.ntmps44
  go_wp2
  go_ret
  exact ⟨rfl, rfl⟩
set_option maxHeartbeats 8000000 in
theorem each_less (A0 A1 : Option Addr) (n c0 m c1 : Nat) (l0 l1 : List Int) (w : World) (hl0 : l0.length = n) (hr0 : Kd.C (Kd.int .i64) w A0 n l0) (hl1 : l1.length = m) (hr1 : Kd.C (Kd.int .i64) w A1 m l1) (hn : n ≤ 1000000) (hm : m ≤ 1000000) :
    Calls Tryd.prog 37 #[.slice A0 n c0, .slice A1 m c1, .func (.func 44) #[] #[]] w fun e w' => ∃ v0_ : Value, e = .returned v0_ ∧ Kd.R (Kd.int .i64) 3 w' w.heap.size (fun _ => True) v0_ (lessL l0 l1) ∧ Below w.heap.size w w' := by
  have hmk := print_make 22 3 .i64 8 Tryd.underlying22 turn_info (by decide) n (by omega)
  have HL0 := Aside0.mk hl0
  have HL1 := Aside0.mk hl1
  have HC0 := Aside0.mk hr0
  have HC1 := Aside0.mk hr1
  by_cases hnm : n = m
  · have HU : Aside0 (∀ xs : List Int, xs.length = n → (∀ j, j < n → xs.getD j 0 = wrap64 (l0.getD j 0 - l1.getD j 0)) → xs = lessL l0 l1) := ⟨fun xs hx hj => by
      have e : l0.length = l1.length := by omega
      refine row_ext (by rw [lessL_length e, hx, hl0]) (fun i hi => ?_)
      rw [hj i (by omega), lessL_getD e i (by omega)]⟩
    subst hnm
    clear hl0 hl1 hr0 hr1
    go_enter Tryd.func37, Tryd.ntmps37
    go_wp2
    go_loopw [20] (fun v wr => ∃ (i : Nat) (xs : List Int), i ≤ n ∧ v = .int .i64 (i : Int) ∧ Aside0 (xs.length = n) ∧ Aside0 (∀ j, j < i → xs.getD j 0 = wrap64 (l0.getD j 0 - l1.getD j 0)) ∧ Aside0 (wr.ownsRow w.heap.size 3 1 (.slice (some ⟨w.heap.size, 0, none⟩) n n) n (nums .i64 xs)) ∧ Aside0 (Below w.heap.size w wr)) (fun v _ => n - (intOf v).toNat)
    case atStart =>
      refine ⟨0, List.replicate n 0, by omega, rfl, ⟨by simp⟩, ⟨fun j hj => by omega⟩, ⟨?_⟩, ⟨by repeat (first | exact Below.refl _ _ | apply below_alloc | apply pw_below_drewN)⟩⟩
      exact own_made w w.heap.size 3 .i64 n (Nat.le_refl _) (by omega)
    case round =>
      obtain ⟨i, xs, hi, rfl, HX, HJ, HO, HB⟩ := hrel
      by_cases hlt : i < n
      · obtain ⟨ad, rfl, hcs⟩ := sp_ad HC0.out (by omega)
        obtain ⟨ad1, rfl, hcs1⟩ := sp_ad HC1.out (by omega)
        have hcell := sp_cell (Kd.C_below HC0.out HB.out) i hlt
        have hcell1 := sp_cell (Kd.C_below HC1.out HB.out) i hlt
        obtain ⟨⟨y, hy⟩, hfr⟩ := own_free HO.out i hlt
        obtain ⟨x0, hx0⟩ : ∃ x, l0.getD i 0 = x := ⟨_, rfl⟩
        obtain ⟨x1, hx1⟩ : ∃ x, l1.getD i 0 = x := ⟨_, rfl⟩
        rw [hx0] at hcell
        rw [hx1] at hcell1
        have HX0 := Aside0.mk hx0
        have HX1 := Aside0.mk hx1
        clear hcs hcs1 hx0 hx1
        go_wp2_with (go_at_call 44; (with_reducible refine (less_one x0 x1 _).mono ?_); rintro e w' ⟨rfl, rfl⟩)
        go_roundw
        case rel =>
          have hst := own_store HO.out (i : Int) (wrap64 (x0 - x1))
          rw [Int.toNat_natCast] at hst
          refine ⟨i + 1, _, by omega, by go_num, ⟨by rw [List.length_set, HX.out]⟩, ⟨?_⟩, ⟨hst.1⟩, ⟨Below.grown HB.out hst.2 HB.out.size (fun k hk => by injection hk with hk; omega)⟩⟩
          intro j hj
          by_cases e : j = i
          · subst e
            rw [List.getD_eq_getElem?_getD, List.getElem?_set_self (by rw [HX.out]; exact hlt), HX0.out, HX1.out]; rfl
          · have := HJ.out j (by omega)
            rw [List.getD_eq_getElem?_getD] at this ⊢
            rw [List.getElem?_set_ne (fun h => e h.symm)]
            exact this
        case measure => simp [intOf]; omega
      · obtain rfl : n = i := by omega
        go_wp2
        go_ret
        refine ⟨_, rfl, ?_, HB.out⟩
        rw [← HU.out xs HX.out HJ.out]
        exact Kd.R_of_own (enc := Value.int .i64) (h1 := fun _ => rfl) (ok := fun _ => True) (xs := xs) (by rw [HX.out]; exact HO.out) (fun _ _ => trivial)
  · have hd : ((n : Int) != (m : Int)) = true := by simp; omega
    have HE : Aside0 (lessL l0 l1 = []) := ⟨by unfold lessL; rw [if_neg (by omega)]⟩
    clear hnm hl0 hl1 hr0 hr1
    go_enter Tryd.func37, Tryd.ntmps37
    go_wp2
    go_ret
    exact ⟨_, rfl, by rw [HE.out]; exact Kd.R_nil _ _ _ _ _, by repeat (first | exact Below.refl _ _ | apply below_alloc | apply pw_below_drewN)⟩
def spin_Less.f (l0 l1 : List Int) : Option (List Int) := if decide (l0.length ≤ 1000000) && decide (l1.length ≤ 1000000) then some (lessL l0 l1) else none
theorem less_go (A0 A1 : Option Addr) (n c0 m c1 : Nat) (l0 l1 : List Int) (w : World) (hl0 : l0.length = n) (hr0 : Kd.C (Kd.int .i64) w A0 n l0) (hl1 : l1.length = m) (hr1 : Kd.C (Kd.int .i64) w A1 m l1) (hn : n ≤ 1000000) (hm : m ≤ 1000000) :
    Calls Tryd.prog 22 #[.slice A0 n c0, .slice A1 m c1] w fun e w' => ∃ v0_ : Value, e = .returned v0_ ∧ Kd.R (Kd.int .i64) 3 w' w.heap.size (fun _ => True) v0_ (lessL l0 l1) ∧ Below w.heap.size w w' := by
  have HL0 := Aside0.mk hl0
  have HL1 := Aside0.mk hl1
  have HC0 := Aside0.mk hr0
  have HC1 := Aside0.mk hr1
  clear hl0 hl1 hr0 hr1
  go_enter Tryd.func22, Tryd.ntmps22
  go_wp2_with (go_at_call 37; (with_reducible refine (each_less A0 A1 n c0 m c1 l0 l1 _ HL0.out HC0.out HL1.out HC1.out hn hm).mono ?_); rintro e w2 ⟨v4, rfl, hR, hb⟩; have HR := Aside0.mk hR; have HB := Aside0.mk hb; clear hR hb)
  go_ret
  exact ⟨_, rfl, HR.out, HB.out⟩
theorem spin_Less.calls (A0 : Option Addr) (c0 : Nat) (l0 : List Int) (A1 : Option Addr) (c1 : Nat) (l1 : List Int) (r : List Int) (w : World) (hr0 : Kd.C (Kd.int .i64) w A0 l0.length l0) (hc0 : l0.length ≤ c0) (hr1 : Kd.C (Kd.int .i64) w A1 l1.length l1) (hc1 : l1.length ≤ c1) (h : spin_Less.f l0 l1 = some r) :
    Calls Tryd.prog 22 #[.slice A0 l0.length c0, .slice A1 l1.length c1] w fun e w' => ∃ v0_ : Value, e = .returned v0_ ∧ Kd.R (Kd.int .i64) 3 w' w.heap.size (fun _ => True) v0_ r ∧ Below w.heap.size w w' := by
  unfold spin_Less.f at h
  split at h
  case isFalse => cases h
  rename_i hz
  obtain rfl := Option.some.inj h
  simp only [Bool.and_eq_true, decide_eq_true_eq] at hz
  exact less_go A0 A1 _ c0 _ c1 l0 l1 w rfl hr0 rfl hr1 hz.1 hz.2

/-! ### earshotref02_Quot: function 57 -/
def earshotref02_Quot.f (a0 : Int) (a1 : Int) : Option (Int) := if a1 = 0 then (none) else (if (Int.tmod a0 a1) < 0 then (some (wrap64 ((wrap64 (Int.tdiv a0 a1)) - 1))) else (some (wrap64 (Int.tdiv a0 a1))))
set_option maxHeartbeats 8000000 in
set_option maxRecDepth 100000 in
theorem earshotref02_Quot.calls (a0 : Int) (a1 : Int) (r : Int) (w : World) (h : earshotref02_Quot.f a0 a1 = some r) :
    Calls Tryd.prog 57 #[.int .i64 a0, .int .i64 a1] w fun e w' => e = .returned (.int .i64 r) ∧ Drawn0 w w' := by
  have H : (if a1 = 0 then (none) else (if (Int.tmod a0 a1) < 0 then (some (wrap64 ((wrap64 (Int.tdiv a0 a1)) - 1))) else (some (wrap64 (Int.tdiv a0 a1))))) = some r := h
  clear h
  by_cases c3 : a1 = 0
  · rw [if_pos c3] at H
    exact absurd H (by simp)
  · rw [if_neg c3] at H
    have c3b0 : (a1 == 0) = false := beq_eq_false_iff_ne.mpr c3
    have c3b1 : (a1 != 0) = true := bne_iff_ne.mpr c3
    by_cases c4 : (Int.tmod a0 a1) < 0
    · rw [if_pos c4] at H
      have c4b0 : decide ((Int.tmod a0 a1) < 0) = true := decide_eq_true c4
      clear c4
      obtain rfl := Option.some.inj H
      go_enter Tryd.func57, Tryd.ntmps57
      go_wp2
      go_ret
      exact ⟨by first | rfl | (simp; done) | (simp [*]; done), by repeat (first | exact Drawn0.refl _ | apply Drawn0.step)⟩
    · rw [if_neg c4] at H
      have c4b0 : decide ((Int.tmod a0 a1) < 0) = false := decide_eq_false c4
      clear c4
      obtain rfl := Option.some.inj H
      go_enter Tryd.func57, Tryd.ntmps57
      go_wp2
      go_ret
      exact ⟨by first | rfl | (simp; done) | (simp [*]; done), by repeat (first | exact Drawn0.refl _ | apply Drawn0.step)⟩

/-! ### earshotref02_Rest: function 48 -/
def earshotref02_Rest.f (a0 : Int) (a1 : Int) : Option (Int) := (earshotref02_Quot.f a0 a1).bind fun t125 => (some (wrap64 (a0 - (wrap64 (t125 * a1)))))
set_option maxHeartbeats 8000000 in
set_option maxRecDepth 100000 in
theorem earshotref02_Rest.calls (a0 : Int) (a1 : Int) (r : Int) (w : World) (h : earshotref02_Rest.f a0 a1 = some r) :
    Calls Tryd.prog 48 #[.int .i64 a0, .int .i64 a1] w fun e w' => e = .returned (.int .i64 r) ∧ Drawn0 w w' := by
  have H : ((earshotref02_Quot.f a0 a1).bind fun t125 => (some (wrap64 (a0 - (wrap64 (t125 * a1)))))) = some r := h
  clear h
  replace H := Option.bind_eq_some_iff.mp H
  obtain ⟨t125, A30, H⟩ := H
  replace H : (some (wrap64 (a0 - (wrap64 (t125 * a1))))) = some r := H
  have A3 := Aside0.mk A30
  clear A30
  obtain rfl := Option.some.inj H
  go_enter Tryd.func48, Tryd.ntmps48
  go_wp2_with (first | ((with_reducible refine gate_callee (f := 57) rfl ?_); refine goesL_ (some 8) rfl rfl Tryd.func57 (by kernel_rfl) rfl #[.int .i64 a0, .int .i64 a1] rfl (by (try simp only [List.map_toArray, List.map_cons, List.map_nil]); first | done | rfl | (simp only [List.length_drop, List.length_take]; rfl)) ?_; (with_reducible refine (earshotref02_Quot.calls a0 a1 t125 _ A3.out).mono ?_); rintro e w' ⟨rfl, ⟨nd, rfl⟩⟩; refine ⟨_, rfl, ?_⟩))
  go_ret
  exact ⟨by first | rfl | (simp; done) | (simp [*]; done), by repeat (first | exact Drawn0.refl _ | apply Drawn0.step)⟩

end Go.Proofs.YtphmfecabbellaaDoor.PSpinTells
