-- Written by a program of this work (wip/tools) for this claim; Lean checks it.
import Derived.Test.YtphmfecabbellaaDoorPSpinQuarterx0
import Derived.Test.YtphmfecabbellaaDoorPSpinQuarterx1
import Derived.Test.YtphmfecabbellaaDoorPSpinQuarterx2
namespace Go.Proofs.YtphmfecabbellaaDoor.PSpinQuarter
open Go.RowKit Go.Proofs.YtphmfecabbellaaDoorW.PrintWords Go.Proofs.YtphmfecabbellaaDoorW.PrintLast Go.Proofs.YtphmfecabbellaaDoorW.PrintMore
attribute [local go_sem] max2_int min2_int max_two min_two max_three min_three max_four min_four   -- for this text's walks alone
set_option linter.unusedVariables false
set_option linter.unusedSimpArgs false

/-! ### earshotlaw09_sized: function 14 -/
def sizedL (n : Nat) (l : List Int) : List Int := (List.range n).map fun i => l.getD i 0
theorem sizedL_length (n : Nat) (l : List Int) : (sizedL n l).length = n := by simp [sizedL]
theorem sizedL_getD (n : Nat) (l : List Int) (i : Nat) (hi : i < n) : (sizedL n l).getD i 0 = l.getD i 0 := getD_map_range _ _ _ hi
def sizeOf_ (s : Int) : Nat := 1 * 2 ^ (s % 6).toNat
theorem size_rem {s e : Int} (h : s % 6 = e) : Int.tmod (IntKind.i64.wrap (Int.tmod s 6 + 6)) 6 = e ∧ Int.tmod (wrap64 (Int.tmod s 6 + 6)) 6 = e ∧ Int.tmod (Int.tmod s 6 + 6) 6 = e := by
  have a := Int.lt_tmod_of_pos s (show (0 : Int) < 6 by decide)
  have b := Int.tmod_lt_of_pos s (show (0 : Int) < 6 by decide)
  have c := Int.tmod_eq_emod (a := s) (b := 6)
  have k : IntKind.i64.wrap (Int.tmod s 6 + 6) = Int.tmod s 6 + 6 := by rw [IntKind.wrap_i64]; omega
  have k2 : wrap64 (Int.tmod s 6 + 6) = Int.tmod s 6 + 6 := by unfold wrap64; omega
  have d : Int.tmod (Int.tmod s 6 + 6) 6 = e := by
    rw [Int.tmod_eq_emod_of_nonneg (by omega)]
    split at c <;> omega
  exact ⟨by rw [k]; exact d, by rw [k2]; exact d, d⟩
def earshotlaw09_sized.f (l0 : List Int) (a1 : Int) : Option (List Int) := if decide (l0.length ≤ 4000000000000000000) then some (sizedL (sizeOf_ a1) l0) else none
set_option maxHeartbeats 8000000 in
theorem sized_0 (A0 : Option Addr) (m c0 : Nat) (l0 : List Int) (a1 : Int) (w : World) (hl : l0.length = m) (hr0 : Kd.C (Kd.int .i64) w A0 m l0) (hm : m ≤ 4000000000000000000) (he : a1 % 6 = 0) :
    Calls Tryd.prog 14 #[.slice A0 m c0, .int .i64 a1] w fun e w' => ∃ v0_ : Value, e = .returned v0_ ∧ Kd.R (Kd.int .i64) 3 w' w.heap.size (fun _ => True) v0_ (sizedL 1 l0) ∧ Below w.heap.size w w' := by
  obtain ⟨q1, q2, q3⟩ := size_rem he
  have hmk := print_make 22 3 .i64 8 Tryd.underlying22 turn_info (by decide) 1 (by omega)
  simp only [Int.cast_ofNat_Int] at hmk
  have HC := Aside0.mk hr0
  have HL := Aside0.mk hl
  clear hl hr0 he
  go_enter Tryd.func14, Tryd.ntmps14
  go_wp2
  go_loopw [6] (fun v wr => ∃ (i : Nat) (xs : List Int), i ≤ 1 ∧ i ≤ m ∧ v = .int .i64 (i : Int) ∧ Aside0 (xs.length = 1) ∧ Aside0 (∀ j, j < 1 → xs.getD j 0 = if j < i then l0.getD j 0 else 0) ∧ Aside0 (wr.ownsRow w.heap.size 3 1 (.slice (some ⟨w.heap.size, 0, none⟩) 1 1) 1 (nums .i64 xs)) ∧ Aside0 (Below w.heap.size w wr)) (fun v _ => 1 - (intOf v).toNat)
  case atStart =>
    refine ⟨0, List.replicate 1 0, by omega, by omega, rfl, ⟨by simp⟩, ⟨fun j hj => by rw [if_neg (by omega), List.getD_eq_getElem?_getD, List.getElem?_replicate, if_pos hj]; rfl⟩, ⟨?_⟩, ⟨by repeat (first | exact Below.refl _ _ | apply below_alloc | apply pw_below_drewN)⟩⟩
    exact own_made w w.heap.size 3 .i64 1 (Nat.le_refl _) (by omega)
  case round =>
    obtain ⟨i, xs, hi, him, rfl, HX, HJ, HO, HB⟩ := hrel
    by_cases hlt : i < 1 ∧ i < m
    · obtain ⟨hlt, hltm⟩ := hlt
      obtain ⟨ad, rfl, hcs⟩ := sp_ad HC.out (by omega)
      have hcell := sp_cell (Kd.C_below HC.out HB.out) i hltm
      obtain ⟨⟨y, hy⟩, hfr⟩ := own_free HO.out i hlt
      obtain ⟨x, hx⟩ : ∃ x, l0.getD i 0 = x := ⟨_, rfl⟩
      rw [hx] at hcell
      have HXV := Aside0.mk hx
      clear hx hcs
      go_wp2
      go_roundw
      case rel =>
        have hst := own_store HO.out (i : Int) x
        rw [Int.toNat_natCast] at hst
        refine ⟨i + 1, _, by omega, by omega, by go_num, ⟨by rw [List.length_set, HX.out]⟩, ⟨?_⟩, ⟨hst.1⟩, ⟨Below.grown HB.out hst.2 HB.out.size (fun k hk => by injection hk with hk; omega)⟩⟩
        intro j hj
        by_cases e : j = i
        · subst e
          rw [if_pos (by omega), HXV.out, List.getD_eq_getElem?_getD, List.getElem?_set_self (by rw [HX.out]; exact hlt)]; rfl
        · have := HJ.out j hj
          rw [List.getD_eq_getElem?_getD] at this ⊢
          rw [List.getElem?_set_ne (fun h => e h.symm), this]
          by_cases h2 : j < i
          · rw [if_pos h2, if_pos (by omega)]
          · rw [if_neg h2, if_neg (by omega)]
      case measure => simp [intOf]; omega
    · have HU : Aside0 (xs = sizedL 1 l0) := ⟨by
        refine row_ext (by rw [HX.out, sizedL_length]) (fun j hj => ?_)
        rw [HX.out] at hj
        rw [HJ.out j hj, sizedL_getD _ _ _ hj]
        split
        · rfl
        · rw [List.getD_eq_getElem?_getD, List.getElem?_eq_none (by rw [HL.out]; omega)]; rfl⟩
      have hex : i = 1 ∨ i < 1 ∧ m = i := by omega
      clear hlt
      rcases hex with rfl | ⟨h1, rfl⟩
      all_goals
        go_wp2
        go_ret
        refine ⟨_, rfl, ?_, HB.out⟩
        rw [← HU.out]
        exact Kd.R_of_own (enc := Value.int .i64) (h1 := fun _ => rfl) (ok := fun _ => True) (xs := xs) (by rw [HX.out]; exact HO.out) (fun _ _ => trivial)
set_option maxHeartbeats 8000000 in
theorem sized_1 (A0 : Option Addr) (m c0 : Nat) (l0 : List Int) (a1 : Int) (w : World) (hl : l0.length = m) (hr0 : Kd.C (Kd.int .i64) w A0 m l0) (hm : m ≤ 4000000000000000000) (he : a1 % 6 = 1) :
    Calls Tryd.prog 14 #[.slice A0 m c0, .int .i64 a1] w fun e w' => ∃ v0_ : Value, e = .returned v0_ ∧ Kd.R (Kd.int .i64) 3 w' w.heap.size (fun _ => True) v0_ (sizedL 2 l0) ∧ Below w.heap.size w w' := by
  obtain ⟨q1, q2, q3⟩ := size_rem he
  have hmk := print_make 22 3 .i64 8 Tryd.underlying22 turn_info (by decide) 2 (by omega)
  simp only [Int.cast_ofNat_Int] at hmk
  have HC := Aside0.mk hr0
  have HL := Aside0.mk hl
  clear hl hr0 he
  go_enter Tryd.func14, Tryd.ntmps14
  go_wp2
  go_loopw [6] (fun v wr => ∃ (i : Nat) (xs : List Int), i ≤ 2 ∧ i ≤ m ∧ v = .int .i64 (i : Int) ∧ Aside0 (xs.length = 2) ∧ Aside0 (∀ j, j < 2 → xs.getD j 0 = if j < i then l0.getD j 0 else 0) ∧ Aside0 (wr.ownsRow w.heap.size 3 1 (.slice (some ⟨w.heap.size, 0, none⟩) 2 2) 2 (nums .i64 xs)) ∧ Aside0 (Below w.heap.size w wr)) (fun v _ => 2 - (intOf v).toNat)
  case atStart =>
    refine ⟨0, List.replicate 2 0, by omega, by omega, rfl, ⟨by simp⟩, ⟨fun j hj => by rw [if_neg (by omega), List.getD_eq_getElem?_getD, List.getElem?_replicate, if_pos hj]; rfl⟩, ⟨?_⟩, ⟨by repeat (first | exact Below.refl _ _ | apply below_alloc | apply pw_below_drewN)⟩⟩
    exact own_made w w.heap.size 3 .i64 2 (Nat.le_refl _) (by omega)
  case round =>
    obtain ⟨i, xs, hi, him, rfl, HX, HJ, HO, HB⟩ := hrel
    by_cases hlt : i < 2 ∧ i < m
    · obtain ⟨hlt, hltm⟩ := hlt
      obtain ⟨ad, rfl, hcs⟩ := sp_ad HC.out (by omega)
      have hcell := sp_cell (Kd.C_below HC.out HB.out) i hltm
      obtain ⟨⟨y, hy⟩, hfr⟩ := own_free HO.out i hlt
      obtain ⟨x, hx⟩ : ∃ x, l0.getD i 0 = x := ⟨_, rfl⟩
      rw [hx] at hcell
      have HXV := Aside0.mk hx
      clear hx hcs
      go_wp2
      go_roundw
      case rel =>
        have hst := own_store HO.out (i : Int) x
        rw [Int.toNat_natCast] at hst
        refine ⟨i + 1, _, by omega, by omega, by go_num, ⟨by rw [List.length_set, HX.out]⟩, ⟨?_⟩, ⟨hst.1⟩, ⟨Below.grown HB.out hst.2 HB.out.size (fun k hk => by injection hk with hk; omega)⟩⟩
        intro j hj
        by_cases e : j = i
        · subst e
          rw [if_pos (by omega), HXV.out, List.getD_eq_getElem?_getD, List.getElem?_set_self (by rw [HX.out]; exact hlt)]; rfl
        · have := HJ.out j hj
          rw [List.getD_eq_getElem?_getD] at this ⊢
          rw [List.getElem?_set_ne (fun h => e h.symm), this]
          by_cases h2 : j < i
          · rw [if_pos h2, if_pos (by omega)]
          · rw [if_neg h2, if_neg (by omega)]
      case measure => simp [intOf]; omega
    · have HU : Aside0 (xs = sizedL 2 l0) := ⟨by
        refine row_ext (by rw [HX.out, sizedL_length]) (fun j hj => ?_)
        rw [HX.out] at hj
        rw [HJ.out j hj, sizedL_getD _ _ _ hj]
        split
        · rfl
        · rw [List.getD_eq_getElem?_getD, List.getElem?_eq_none (by rw [HL.out]; omega)]; rfl⟩
      have hex : i = 2 ∨ i < 2 ∧ m = i := by omega
      clear hlt
      rcases hex with rfl | ⟨h1, rfl⟩
      all_goals
        go_wp2
        go_ret
        refine ⟨_, rfl, ?_, HB.out⟩
        rw [← HU.out]
        exact Kd.R_of_own (enc := Value.int .i64) (h1 := fun _ => rfl) (ok := fun _ => True) (xs := xs) (by rw [HX.out]; exact HO.out) (fun _ _ => trivial)
set_option maxHeartbeats 8000000 in
theorem sized_2 (A0 : Option Addr) (m c0 : Nat) (l0 : List Int) (a1 : Int) (w : World) (hl : l0.length = m) (hr0 : Kd.C (Kd.int .i64) w A0 m l0) (hm : m ≤ 4000000000000000000) (he : a1 % 6 = 2) :
    Calls Tryd.prog 14 #[.slice A0 m c0, .int .i64 a1] w fun e w' => ∃ v0_ : Value, e = .returned v0_ ∧ Kd.R (Kd.int .i64) 3 w' w.heap.size (fun _ => True) v0_ (sizedL 4 l0) ∧ Below w.heap.size w w' := by
  obtain ⟨q1, q2, q3⟩ := size_rem he
  have hmk := print_make 22 3 .i64 8 Tryd.underlying22 turn_info (by decide) 4 (by omega)
  simp only [Int.cast_ofNat_Int] at hmk
  have HC := Aside0.mk hr0
  have HL := Aside0.mk hl
  clear hl hr0 he
  go_enter Tryd.func14, Tryd.ntmps14
  go_wp2
  go_loopw [6] (fun v wr => ∃ (i : Nat) (xs : List Int), i ≤ 4 ∧ i ≤ m ∧ v = .int .i64 (i : Int) ∧ Aside0 (xs.length = 4) ∧ Aside0 (∀ j, j < 4 → xs.getD j 0 = if j < i then l0.getD j 0 else 0) ∧ Aside0 (wr.ownsRow w.heap.size 3 1 (.slice (some ⟨w.heap.size, 0, none⟩) 4 4) 4 (nums .i64 xs)) ∧ Aside0 (Below w.heap.size w wr)) (fun v _ => 4 - (intOf v).toNat)
  case atStart =>
    refine ⟨0, List.replicate 4 0, by omega, by omega, rfl, ⟨by simp⟩, ⟨fun j hj => by rw [if_neg (by omega), List.getD_eq_getElem?_getD, List.getElem?_replicate, if_pos hj]; rfl⟩, ⟨?_⟩, ⟨by repeat (first | exact Below.refl _ _ | apply below_alloc | apply pw_below_drewN)⟩⟩
    exact own_made w w.heap.size 3 .i64 4 (Nat.le_refl _) (by omega)
  case round =>
    obtain ⟨i, xs, hi, him, rfl, HX, HJ, HO, HB⟩ := hrel
    by_cases hlt : i < 4 ∧ i < m
    · obtain ⟨hlt, hltm⟩ := hlt
      obtain ⟨ad, rfl, hcs⟩ := sp_ad HC.out (by omega)
      have hcell := sp_cell (Kd.C_below HC.out HB.out) i hltm
      obtain ⟨⟨y, hy⟩, hfr⟩ := own_free HO.out i hlt
      obtain ⟨x, hx⟩ : ∃ x, l0.getD i 0 = x := ⟨_, rfl⟩
      rw [hx] at hcell
      have HXV := Aside0.mk hx
      clear hx hcs
      go_wp2
      go_roundw
      case rel =>
        have hst := own_store HO.out (i : Int) x
        rw [Int.toNat_natCast] at hst
        refine ⟨i + 1, _, by omega, by omega, by go_num, ⟨by rw [List.length_set, HX.out]⟩, ⟨?_⟩, ⟨hst.1⟩, ⟨Below.grown HB.out hst.2 HB.out.size (fun k hk => by injection hk with hk; omega)⟩⟩
        intro j hj
        by_cases e : j = i
        · subst e
          rw [if_pos (by omega), HXV.out, List.getD_eq_getElem?_getD, List.getElem?_set_self (by rw [HX.out]; exact hlt)]; rfl
        · have := HJ.out j hj
          rw [List.getD_eq_getElem?_getD] at this ⊢
          rw [List.getElem?_set_ne (fun h => e h.symm), this]
          by_cases h2 : j < i
          · rw [if_pos h2, if_pos (by omega)]
          · rw [if_neg h2, if_neg (by omega)]
      case measure => simp [intOf]; omega
    · have HU : Aside0 (xs = sizedL 4 l0) := ⟨by
        refine row_ext (by rw [HX.out, sizedL_length]) (fun j hj => ?_)
        rw [HX.out] at hj
        rw [HJ.out j hj, sizedL_getD _ _ _ hj]
        split
        · rfl
        · rw [List.getD_eq_getElem?_getD, List.getElem?_eq_none (by rw [HL.out]; omega)]; rfl⟩
      have hex : i = 4 ∨ i < 4 ∧ m = i := by omega
      clear hlt
      rcases hex with rfl | ⟨h1, rfl⟩
      all_goals
        go_wp2
        go_ret
        refine ⟨_, rfl, ?_, HB.out⟩
        rw [← HU.out]
        exact Kd.R_of_own (enc := Value.int .i64) (h1 := fun _ => rfl) (ok := fun _ => True) (xs := xs) (by rw [HX.out]; exact HO.out) (fun _ _ => trivial)
set_option maxHeartbeats 8000000 in
theorem sized_3 (A0 : Option Addr) (m c0 : Nat) (l0 : List Int) (a1 : Int) (w : World) (hl : l0.length = m) (hr0 : Kd.C (Kd.int .i64) w A0 m l0) (hm : m ≤ 4000000000000000000) (he : a1 % 6 = 3) :
    Calls Tryd.prog 14 #[.slice A0 m c0, .int .i64 a1] w fun e w' => ∃ v0_ : Value, e = .returned v0_ ∧ Kd.R (Kd.int .i64) 3 w' w.heap.size (fun _ => True) v0_ (sizedL 8 l0) ∧ Below w.heap.size w w' := by
  obtain ⟨q1, q2, q3⟩ := size_rem he
  have hmk := print_make 22 3 .i64 8 Tryd.underlying22 turn_info (by decide) 8 (by omega)
  simp only [Int.cast_ofNat_Int] at hmk
  have HC := Aside0.mk hr0
  have HL := Aside0.mk hl
  clear hl hr0 he
  go_enter Tryd.func14, Tryd.ntmps14
  go_wp2
  go_loopw [6] (fun v wr => ∃ (i : Nat) (xs : List Int), i ≤ 8 ∧ i ≤ m ∧ v = .int .i64 (i : Int) ∧ Aside0 (xs.length = 8) ∧ Aside0 (∀ j, j < 8 → xs.getD j 0 = if j < i then l0.getD j 0 else 0) ∧ Aside0 (wr.ownsRow w.heap.size 3 1 (.slice (some ⟨w.heap.size, 0, none⟩) 8 8) 8 (nums .i64 xs)) ∧ Aside0 (Below w.heap.size w wr)) (fun v _ => 8 - (intOf v).toNat)
  case atStart =>
    refine ⟨0, List.replicate 8 0, by omega, by omega, rfl, ⟨by simp⟩, ⟨fun j hj => by rw [if_neg (by omega), List.getD_eq_getElem?_getD, List.getElem?_replicate, if_pos hj]; rfl⟩, ⟨?_⟩, ⟨by repeat (first | exact Below.refl _ _ | apply below_alloc | apply pw_below_drewN)⟩⟩
    exact own_made w w.heap.size 3 .i64 8 (Nat.le_refl _) (by omega)
  case round =>
    obtain ⟨i, xs, hi, him, rfl, HX, HJ, HO, HB⟩ := hrel
    by_cases hlt : i < 8 ∧ i < m
    · obtain ⟨hlt, hltm⟩ := hlt
      obtain ⟨ad, rfl, hcs⟩ := sp_ad HC.out (by omega)
      have hcell := sp_cell (Kd.C_below HC.out HB.out) i hltm
      obtain ⟨⟨y, hy⟩, hfr⟩ := own_free HO.out i hlt
      obtain ⟨x, hx⟩ : ∃ x, l0.getD i 0 = x := ⟨_, rfl⟩
      rw [hx] at hcell
      have HXV := Aside0.mk hx
      clear hx hcs
      go_wp2
      go_roundw
      case rel =>
        have hst := own_store HO.out (i : Int) x
        rw [Int.toNat_natCast] at hst
        refine ⟨i + 1, _, by omega, by omega, by go_num, ⟨by rw [List.length_set, HX.out]⟩, ⟨?_⟩, ⟨hst.1⟩, ⟨Below.grown HB.out hst.2 HB.out.size (fun k hk => by injection hk with hk; omega)⟩⟩
        intro j hj
        by_cases e : j = i
        · subst e
          rw [if_pos (by omega), HXV.out, List.getD_eq_getElem?_getD, List.getElem?_set_self (by rw [HX.out]; exact hlt)]; rfl
        · have := HJ.out j hj
          rw [List.getD_eq_getElem?_getD] at this ⊢
          rw [List.getElem?_set_ne (fun h => e h.symm), this]
          by_cases h2 : j < i
          · rw [if_pos h2, if_pos (by omega)]
          · rw [if_neg h2, if_neg (by omega)]
      case measure => simp [intOf]; omega
    · have HU : Aside0 (xs = sizedL 8 l0) := ⟨by
        refine row_ext (by rw [HX.out, sizedL_length]) (fun j hj => ?_)
        rw [HX.out] at hj
        rw [HJ.out j hj, sizedL_getD _ _ _ hj]
        split
        · rfl
        · rw [List.getD_eq_getElem?_getD, List.getElem?_eq_none (by rw [HL.out]; omega)]; rfl⟩
      have hex : i = 8 ∨ i < 8 ∧ m = i := by omega
      clear hlt
      rcases hex with rfl | ⟨h1, rfl⟩
      all_goals
        go_wp2
        go_ret
        refine ⟨_, rfl, ?_, HB.out⟩
        rw [← HU.out]
        exact Kd.R_of_own (enc := Value.int .i64) (h1 := fun _ => rfl) (ok := fun _ => True) (xs := xs) (by rw [HX.out]; exact HO.out) (fun _ _ => trivial)
set_option maxHeartbeats 8000000 in
theorem sized_4 (A0 : Option Addr) (m c0 : Nat) (l0 : List Int) (a1 : Int) (w : World) (hl : l0.length = m) (hr0 : Kd.C (Kd.int .i64) w A0 m l0) (hm : m ≤ 4000000000000000000) (he : a1 % 6 = 4) :
    Calls Tryd.prog 14 #[.slice A0 m c0, .int .i64 a1] w fun e w' => ∃ v0_ : Value, e = .returned v0_ ∧ Kd.R (Kd.int .i64) 3 w' w.heap.size (fun _ => True) v0_ (sizedL 16 l0) ∧ Below w.heap.size w w' := by
  obtain ⟨q1, q2, q3⟩ := size_rem he
  have hmk := print_make 22 3 .i64 8 Tryd.underlying22 turn_info (by decide) 16 (by omega)
  simp only [Int.cast_ofNat_Int] at hmk
  have HC := Aside0.mk hr0
  have HL := Aside0.mk hl
  clear hl hr0 he
  go_enter Tryd.func14, Tryd.ntmps14
  go_wp2
  go_loopw [6] (fun v wr => ∃ (i : Nat) (xs : List Int), i ≤ 16 ∧ i ≤ m ∧ v = .int .i64 (i : Int) ∧ Aside0 (xs.length = 16) ∧ Aside0 (∀ j, j < 16 → xs.getD j 0 = if j < i then l0.getD j 0 else 0) ∧ Aside0 (wr.ownsRow w.heap.size 3 1 (.slice (some ⟨w.heap.size, 0, none⟩) 16 16) 16 (nums .i64 xs)) ∧ Aside0 (Below w.heap.size w wr)) (fun v _ => 16 - (intOf v).toNat)
  case atStart =>
    refine ⟨0, List.replicate 16 0, by omega, by omega, rfl, ⟨by simp⟩, ⟨fun j hj => by rw [if_neg (by omega), List.getD_eq_getElem?_getD, List.getElem?_replicate, if_pos hj]; rfl⟩, ⟨?_⟩, ⟨by repeat (first | exact Below.refl _ _ | apply below_alloc | apply pw_below_drewN)⟩⟩
    exact own_made w w.heap.size 3 .i64 16 (Nat.le_refl _) (by omega)
  case round =>
    obtain ⟨i, xs, hi, him, rfl, HX, HJ, HO, HB⟩ := hrel
    by_cases hlt : i < 16 ∧ i < m
    · obtain ⟨hlt, hltm⟩ := hlt
      obtain ⟨ad, rfl, hcs⟩ := sp_ad HC.out (by omega)
      have hcell := sp_cell (Kd.C_below HC.out HB.out) i hltm
      obtain ⟨⟨y, hy⟩, hfr⟩ := own_free HO.out i hlt
      obtain ⟨x, hx⟩ : ∃ x, l0.getD i 0 = x := ⟨_, rfl⟩
      rw [hx] at hcell
      have HXV := Aside0.mk hx
      clear hx hcs
      go_wp2
      go_roundw
      case rel =>
        have hst := own_store HO.out (i : Int) x
        rw [Int.toNat_natCast] at hst
        refine ⟨i + 1, _, by omega, by omega, by go_num, ⟨by rw [List.length_set, HX.out]⟩, ⟨?_⟩, ⟨hst.1⟩, ⟨Below.grown HB.out hst.2 HB.out.size (fun k hk => by injection hk with hk; omega)⟩⟩
        intro j hj
        by_cases e : j = i
        · subst e
          rw [if_pos (by omega), HXV.out, List.getD_eq_getElem?_getD, List.getElem?_set_self (by rw [HX.out]; exact hlt)]; rfl
        · have := HJ.out j hj
          rw [List.getD_eq_getElem?_getD] at this ⊢
          rw [List.getElem?_set_ne (fun h => e h.symm), this]
          by_cases h2 : j < i
          · rw [if_pos h2, if_pos (by omega)]
          · rw [if_neg h2, if_neg (by omega)]
      case measure => simp [intOf]; omega
    · have HU : Aside0 (xs = sizedL 16 l0) := ⟨by
        refine row_ext (by rw [HX.out, sizedL_length]) (fun j hj => ?_)
        rw [HX.out] at hj
        rw [HJ.out j hj, sizedL_getD _ _ _ hj]
        split
        · rfl
        · rw [List.getD_eq_getElem?_getD, List.getElem?_eq_none (by rw [HL.out]; omega)]; rfl⟩
      have hex : i = 16 ∨ i < 16 ∧ m = i := by omega
      clear hlt
      rcases hex with rfl | ⟨h1, rfl⟩
      all_goals
        go_wp2
        go_ret
        refine ⟨_, rfl, ?_, HB.out⟩
        rw [← HU.out]
        exact Kd.R_of_own (enc := Value.int .i64) (h1 := fun _ => rfl) (ok := fun _ => True) (xs := xs) (by rw [HX.out]; exact HO.out) (fun _ _ => trivial)
set_option maxHeartbeats 8000000 in
theorem sized_5 (A0 : Option Addr) (m c0 : Nat) (l0 : List Int) (a1 : Int) (w : World) (hl : l0.length = m) (hr0 : Kd.C (Kd.int .i64) w A0 m l0) (hm : m ≤ 4000000000000000000) (he : a1 % 6 = 5) :
    Calls Tryd.prog 14 #[.slice A0 m c0, .int .i64 a1] w fun e w' => ∃ v0_ : Value, e = .returned v0_ ∧ Kd.R (Kd.int .i64) 3 w' w.heap.size (fun _ => True) v0_ (sizedL 32 l0) ∧ Below w.heap.size w w' := by
  obtain ⟨q1, q2, q3⟩ := size_rem he
  have hmk := print_make 22 3 .i64 8 Tryd.underlying22 turn_info (by decide) 32 (by omega)
  simp only [Int.cast_ofNat_Int] at hmk
  have HC := Aside0.mk hr0
  have HL := Aside0.mk hl
  clear hl hr0 he
  go_enter Tryd.func14, Tryd.ntmps14
  go_wp2
  go_loopw [6] (fun v wr => ∃ (i : Nat) (xs : List Int), i ≤ 32 ∧ i ≤ m ∧ v = .int .i64 (i : Int) ∧ Aside0 (xs.length = 32) ∧ Aside0 (∀ j, j < 32 → xs.getD j 0 = if j < i then l0.getD j 0 else 0) ∧ Aside0 (wr.ownsRow w.heap.size 3 1 (.slice (some ⟨w.heap.size, 0, none⟩) 32 32) 32 (nums .i64 xs)) ∧ Aside0 (Below w.heap.size w wr)) (fun v _ => 32 - (intOf v).toNat)
  case atStart =>
    refine ⟨0, List.replicate 32 0, by omega, by omega, rfl, ⟨by simp⟩, ⟨fun j hj => by rw [if_neg (by omega), List.getD_eq_getElem?_getD, List.getElem?_replicate, if_pos hj]; rfl⟩, ⟨?_⟩, ⟨by repeat (first | exact Below.refl _ _ | apply below_alloc | apply pw_below_drewN)⟩⟩
    exact own_made w w.heap.size 3 .i64 32 (Nat.le_refl _) (by omega)
  case round =>
    obtain ⟨i, xs, hi, him, rfl, HX, HJ, HO, HB⟩ := hrel
    by_cases hlt : i < 32 ∧ i < m
    · obtain ⟨hlt, hltm⟩ := hlt
      obtain ⟨ad, rfl, hcs⟩ := sp_ad HC.out (by omega)
      have hcell := sp_cell (Kd.C_below HC.out HB.out) i hltm
      obtain ⟨⟨y, hy⟩, hfr⟩ := own_free HO.out i hlt
      obtain ⟨x, hx⟩ : ∃ x, l0.getD i 0 = x := ⟨_, rfl⟩
      rw [hx] at hcell
      have HXV := Aside0.mk hx
      clear hx hcs
      go_wp2
      go_roundw
      case rel =>
        have hst := own_store HO.out (i : Int) x
        rw [Int.toNat_natCast] at hst
        refine ⟨i + 1, _, by omega, by omega, by go_num, ⟨by rw [List.length_set, HX.out]⟩, ⟨?_⟩, ⟨hst.1⟩, ⟨Below.grown HB.out hst.2 HB.out.size (fun k hk => by injection hk with hk; omega)⟩⟩
        intro j hj
        by_cases e : j = i
        · subst e
          rw [if_pos (by omega), HXV.out, List.getD_eq_getElem?_getD, List.getElem?_set_self (by rw [HX.out]; exact hlt)]; rfl
        · have := HJ.out j hj
          rw [List.getD_eq_getElem?_getD] at this ⊢
          rw [List.getElem?_set_ne (fun h => e h.symm), this]
          by_cases h2 : j < i
          · rw [if_pos h2, if_pos (by omega)]
          · rw [if_neg h2, if_neg (by omega)]
      case measure => simp [intOf]; omega
    · have HU : Aside0 (xs = sizedL 32 l0) := ⟨by
        refine row_ext (by rw [HX.out, sizedL_length]) (fun j hj => ?_)
        rw [HX.out] at hj
        rw [HJ.out j hj, sizedL_getD _ _ _ hj]
        split
        · rfl
        · rw [List.getD_eq_getElem?_getD, List.getElem?_eq_none (by rw [HL.out]; omega)]; rfl⟩
      have hex : i = 32 ∨ i < 32 ∧ m = i := by omega
      clear hlt
      rcases hex with rfl | ⟨h1, rfl⟩
      all_goals
        go_wp2
        go_ret
        refine ⟨_, rfl, ?_, HB.out⟩
        rw [← HU.out]
        exact Kd.R_of_own (enc := Value.int .i64) (h1 := fun _ => rfl) (ok := fun _ => True) (xs := xs) (by rw [HX.out]; exact HO.out) (fun _ _ => trivial)
theorem earshotlaw09_sized.calls (A0 : Option Addr) (c0 : Nat) (l0 : List Int) (a1 : Int) (r : List Int) (w : World) (hr0 : Kd.C (Kd.int .i64) w A0 l0.length l0) (hc0 : l0.length ≤ c0) (h : earshotlaw09_sized.f l0 a1 = some r) :
    Calls Tryd.prog 14 #[.slice A0 l0.length c0, .int .i64 a1] w fun e w' => ∃ v0_ : Value, e = .returned v0_ ∧ Kd.R (Kd.int .i64) 3 w' w.heap.size (fun _ => True) v0_ r ∧ Below w.heap.size w w' := by
  unfold earshotlaw09_sized.f at h
  split at h
  case isFalse => cases h
  rename_i hz
  obtain rfl := Option.some.inj h
  simp only [decide_eq_true_eq] at hz
  have m0 := Int.emod_nonneg a1 (show (6 : Int) ≠ 0 by decide)
  have m1 := Int.emod_lt_of_pos a1 (show (0 : Int) < 6 by decide)
  have hc : a1 % 6 = 0 ∨ a1 % 6 = 1 ∨ a1 % 6 = 2 ∨ a1 % 6 = 3 ∨ a1 % 6 = 4 ∨ a1 % 6 = 5 := by omega
  rcases hc with he | he | he | he | he | he
  · have hs : sizeOf_ a1 = 1 := by unfold sizeOf_; rw [he]; rfl
    rw [hs]
    exact sized_0 A0 _ c0 l0 a1 w rfl hr0 hz he
  · have hs : sizeOf_ a1 = 2 := by unfold sizeOf_; rw [he]; rfl
    rw [hs]
    exact sized_1 A0 _ c0 l0 a1 w rfl hr0 hz he
  · have hs : sizeOf_ a1 = 4 := by unfold sizeOf_; rw [he]; rfl
    rw [hs]
    exact sized_2 A0 _ c0 l0 a1 w rfl hr0 hz he
  · have hs : sizeOf_ a1 = 8 := by unfold sizeOf_; rw [he]; rfl
    rw [hs]
    exact sized_3 A0 _ c0 l0 a1 w rfl hr0 hz he
  · have hs : sizeOf_ a1 = 16 := by unfold sizeOf_; rw [he]; rfl
    rw [hs]
    exact sized_4 A0 _ c0 l0 a1 w rfl hr0 hz he
  · have hs : sizeOf_ a1 = 32 := by unfold sizeOf_; rw [he]; rfl
    rw [hs]
    exact sized_5 A0 _ c0 l0 a1 w rfl hr0 hz he

/-! ### earshotlaw09_SpinQuarter: function 3 -/
-- PURE intro l0 a _ h8 hw ha; unfold earshotlaw09_SpinQuarter.f; rw [if_pos]; simp only [Bool.and_eq_true, decide_eq_true_eq, List.all_eq_true]; exact ⟨by omega, fun x hx => wf_i64 (hw x hx)⟩
/-! ### The parts of spins -/
theorem S_turn (F : Int → Int) (h : Nat) (hF : ∀ p, wrap64 (F (p + h)) = wrap64 (F p)) : ∀ k : Nat, wrap64 (S h (fun j => F ((j : Int) + (k : Int)))) = wrap64 (S h (fun j => F (j : Int)))
  | 0 => by simp
  | k + 1 => by
    rw [← S_turn F h hF k]
    have e1 := S_front h (fun j => F ((j : Int) + (k : Int)))
    have e2 : S (h + 1) (fun j => F ((j : Int) + (k : Int))) = S h (fun j => F ((j : Int) + (k : Int))) + F ((h : Int) + k) := rfl
    have e3 : S h (fun i => F (((i + 1 : Nat) : Int) + (k : Int))) = S h (fun j => F ((j : Int) + ((k + 1 : Nat) : Int))) := S_congr (fun i _ => by congr 1; omega)
    have e4 := hF (k : Int)
    rw [show (k : Int) + h = (h : Int) + k by omega] at e4
    rw [← e3]
    have e5 : S h (fun i => F (((i + 1 : Nat) : Int) + (k : Int))) = S h (fun j => F ((j : Int) + (k : Int))) + F ((h : Int) + k) - F (k : Int) := by
      have : F ((0 : Nat) + (k : Int)) = F (k : Int) := by simp
      omega
    rw [e5, ← W_W_sub, ← W_add_W, e4, W_add_W, W_W_sub]
    congr 1; omega
theorem sp_sum_S (l : List Int) (T : Int → Int) (s : Nat) : ∀ n, sp_sum l T s n = wrap64 (S n (fun j => l.getD j 0 * T ((j : Int) * (s : Int))))
  | 0 => (W_in (a := 0) (by decide) (by decide)).symm
  | n + 1 => by rw [sp_sum, sp_sum_S l T s n, W_W_add, W_add_W]; rfl
theorem T_per {T : Int → Int} (hT : ∀ x, T (x + 32) = -T x) (x : Int) (k : Nat) : T (x + 64 * (k : Int)) = T x := by
  induction k with
  | zero => simp
  | succ k ih => rw [show x + 64 * ((k + 1 : Nat) : Int) = x + 64 * (k : Int) + 32 + 32 by omega, hT, hT, ih]; omega
theorem T_mod {T : Int → Int} (hT : ∀ x, T (x + 32) = -T x) {x y : Int} (h : x % 64 = y % 64) : T x = T y := by
  have key : ∀ z : Int, T z = T (z % 64) := fun z => by
    rcases Int.le_total 0 (z / 64) with h0 | h0
    · obtain ⟨k, hk⟩ := Int.eq_ofNat_of_zero_le h0
      have := T_per hT (z % 64) k
      rw [← this]; congr 1; omega
    · obtain ⟨k, hk⟩ := Int.eq_ofNat_of_zero_le (show 0 ≤ -(z / 64) by omega)
      have := T_per hT z k
      rw [← this]; congr 1; omega
  rw [key x, key y, h]
theorem may_s {h : Nat} (hm : sp_may h = true) : 0 < h ∧ (h : Int) * ((32 / h : Nat) : Int) = 32 ∧ h ≤ 32 := by
  rcases sp_may_cases hm with rfl | rfl | rfl | rfl | rfl | rfl <;> decide
theorem part_turn (v : List Int) (hv : In64 v) (T : Int → Int) (hT : ∀ x, T (x + 32) = -T x) (hm : sp_may v.length = true) (k : Int) :
    sp_part (turnL v k) T = wrap64 (S v.length (fun j => v.getD j 0 * T (((j : Int) + k) * ((32 / v.length : Nat) : Int)))) := by
  obtain ⟨h0, hs, _⟩ := may_s hm
  unfold sp_part
  rw [turnL_length, if_pos hm, sp_sum_S]
  generalize hss : ((32 / v.length : Nat) : Int) = s at hs
  have e0 : S v.length (fun j => (turnL v k).getD j 0 * T ((j : Int) * s)) = S v.length (fun j => ext v ((j : Int) - k) * T ((j : Int) * s)) := S_congr (fun i hi => by rw [turnL_getD _ _ _ hi])
  have hF : ∀ p : Int, wrap64 (ext v (p + (v.length : Int) - k) * T ((p + (v.length : Int)) * s)) = wrap64 (ext v (p - k) * T (p * s)) := fun p => by
    rw [show p + (v.length : Int) - k = p - k + v.length by omega, ext_half v hv, Int.add_mul, hs, hT, W_W_mul, Int.neg_mul_neg]
  have hk0 := Int.emod_nonneg k (show 2 * (v.length : Int) ≠ 0 by omega)
  obtain ⟨K, hK⟩ := Int.eq_ofNat_of_zero_le hk0
  have hsh := S_turn (fun p => ext v (p - k) * T (p * s)) v.length hF K
  rw [e0, ← hsh]
  congr 1
  refine S_congr (fun i hi => ?_)
  have ek : k = 2 * (v.length : Int) * (k / (2 * (v.length : Int))) + (K : Int) := by rw [← hK]; exact (Int.mul_ediv_add_emod k _).symm
  obtain ⟨z, hz⟩ : ∃ z, k / (2 * (v.length : Int)) = z := ⟨_, rfl⟩
  rw [hz] at ek
  have e1 : ext v ((i : Int) + (K : Int) - k) = v.getD i 0 := by
    rw [← ext_low v i hi]
    refine ext_mod ?_
    rw [show (i : Int) + (K : Int) - k = (i : Int) + 2 * (v.length : Int) * (-z) by rw [Int.mul_neg]; omega, Int.add_mul_emod_self_left]
  have e2 : T (((i : Int) + (K : Int)) * s) = T (((i : Int) + k) * s) := by
    refine T_mod hT ?_
    have e4 : 2 * (v.length : Int) * z * s = 64 * z := by
      rw [Int.mul_right_comm, Int.mul_assoc 2, hs]; omega
    have e3 : ((i : Int) + k) * s = ((i : Int) + (K : Int)) * s + 64 * z := by
      rw [ek, ← e4, ← Int.add_mul]
      congr 1
      omega
    rw [e3, Int.add_mul_emod_self_left]
  rw [e1, e2]
theorem part_S (v : List Int) (T : Int → Int) (hm : sp_may v.length = true) : sp_part v T = wrap64 (S v.length (fun j => v.getD j 0 * T ((j : Int) * ((32 / v.length : Nat) : Int)))) := by
  unfold sp_part
  rw [if_pos hm, sp_sum_S]
theorem cos_fin : ∀ r : Fin 64, cosT ((r.1 : Nat) : Int) = cosT ((r.1 : Nat) : Int) ∧ cosT (((r.1 : Nat) : Int) + 32) = -cosT ((r.1 : Nat) : Int) ∧ cosT (((r.1 : Nat) : Int) + 16) = -sinT ((r.1 : Nat) : Int) ∧ sinT (((r.1 : Nat) : Int) + 16) = cosT ((r.1 : Nat) : Int) ∧ sinT (((r.1 : Nat) : Int) + 32) = -sinT ((r.1 : Nat) : Int) ∧ cosT (-((r.1 : Nat) : Int)) = cosT ((r.1 : Nat) : Int) ∧ sinT (-((r.1 : Nat) : Int)) = -sinT ((r.1 : Nat) : Int) := by decide +kernel
theorem cosT_mod {x y : Int} (h : x % 64 = y % 64) : cosT x = cosT y := by unfold cosT; rw [h]
theorem sinT_mod {x y : Int} (h : x % 64 = y % 64) : sinT x = sinT y := by unfold sinT; rw [h]
theorem T_all (x : Int) : cosT (x + 32) = -cosT x ∧ cosT (x + 16) = -sinT x ∧ sinT (x + 16) = cosT x ∧ sinT (x + 32) = -sinT x ∧ cosT (-x) = cosT x ∧ sinT (-x) = -sinT x := by
  have m0 := Int.emod_nonneg x (show (64 : Int) ≠ 0 by decide)
  have m1 := Int.emod_lt_of_pos x (show (0 : Int) < 64 by decide)
  obtain ⟨n, hn⟩ := Int.eq_ofNat_of_zero_le m0
  have h := cos_fin ⟨n, by omega⟩
  simp only at h
  rw [← hn] at h
  obtain ⟨_, h1, h2, h3, h4, h5, h6⟩ := h
  rw [cosT_mod (x := x + 32) (y := x % 64 + 32) (by omega), cosT_mod (x := x + 16) (y := x % 64 + 16) (by omega), sinT_mod (x := x + 16) (y := x % 64 + 16) (by omega), sinT_mod (x := x + 32) (y := x % 64 + 32) (by omega), cosT_mod (x := -x) (y := -(x % 64)) (by omega), sinT_mod (x := -x) (y := -(x % 64)) (by omega), cosT_mod (x := x) (y := x % 64) (by omega), sinT_mod (x := x) (y := x % 64) (by omega)]
  exact ⟨h1, h2, h3, h4, h5, h6⟩
theorem cos_half (x : Int) : cosT (x + 32) = -cosT x := (T_all x).1
theorem sin_half (x : Int) : sinT (x + 32) = -sinT x := (T_all x).2.2.2.1
theorem neg_S (n : Nat) (g f : Nat → Int) (h : ∀ i, i < n → g i = -f i) : S n g = -S n f := by rw [← S_neg]; exact S_congr h
theorem part_half (v : List Int) (hv : In64 v) (T : Int → Int) (hT : ∀ x, T (x + 32) = -T x) (hm : sp_may v.length = true) : sp_part (turnL v v.length) T = wrap64 (-(sp_part v T)) := by
  rw [part_turn v hv T hT hm, part_S v T hm, W_neg_W]
  congr 1
  refine neg_S _ _ _ (fun i _ => ?_)
  rw [Int.add_mul, (may_s hm).2.1, hT, Int.mul_neg]
theorem part_add (a b : List Int) (T : Int → Int) (h : a.length = b.length) : sp_part (addL a b) T = wrap64 (sp_part a T + sp_part b T) := by
  by_cases hm : sp_may a.length = true
  · rw [part_S _ T (by rw [addL_length h]; exact hm), part_S a T hm, part_S b T (by rw [← h]; exact hm), addL_length h, ← h, W_W_add, W_add_W, ← S_add, ← W_S]
    rw [← W_S _ (fun i => a.getD i 0 * T (↑i * ↑(32 / a.length)) + b.getD i 0 * T (↑i * ↑(32 / a.length)))]
    congr 1
    refine S_congr (fun i hi => ?_)
    rw [addL_getD h i hi, W_W_mul, Int.add_mul]
  · unfold sp_part
    rw [addL_length h, ← h, if_neg hm, if_neg hm, if_neg hm]
    exact (W_in (a := 0) (by decide) (by decide)).symm
theorem part_less (a b : List Int) (T : Int → Int) (h : a.length = b.length) : sp_part (lessL a b) T = wrap64 (sp_part a T - sp_part b T) := by
  by_cases hm : sp_may a.length = true
  · rw [part_S _ T (by rw [lessL_length h]; exact hm), part_S a T hm, part_S b T (by rw [← h]; exact hm), lessL_length h, ← h, W_W_sub, W_sub_W, ← S_sub, ← W_S]
    rw [← W_S _ (fun i => a.getD i 0 * T (↑i * ↑(32 / a.length)) - b.getD i 0 * T (↑i * ↑(32 / a.length)))]
    congr 1
    refine S_congr (fun i hi => ?_)
    rw [lessL_getD h i hi, W_W_mul, Int.sub_mul]
  · unfold sp_part
    rw [lessL_length h, ← h, if_neg hm, if_neg hm, if_neg hm]
    exact (W_in (a := 0) (by decide) (by decide)).symm

/-- A call's result is a row that reads as xs; the world is as it was, but for what is new. -/
def CRes (w0 W : World) (h : Nat) (xs : List Int) (e : Ending) (w' : World) : Prop :=
  ∃ A c, e = .returned (.slice A h c) ∧ h ≤ c ∧ Aside0 ((Kd.int .i64).C w' A h xs) ∧ Aside0 (Below w0.heap.size w0 w') ∧ Aside0 (Below W.heap.size W w')
theorem cres_of {w0 W w' : World} {h : Nat} {xs : List Int} {v : Value} {t b : Nat} {ok : Nat → Prop} (hB : Below w0.heap.size w0 W) (hR : (Kd.int .i64).R t w' b ok v xs) (hl : xs.length = h) (hb : Below W.heap.size W w') : CRes w0 W h xs (.returned v) w' := by
  subst hl
  obtain ⟨A, c, rfl, h1, h2⟩ := Kd.R_reads hR
  exact ⟨A, c, rfl, h1, ⟨h2⟩, ⟨below_step hB hb⟩, ⟨hb⟩⟩
theorem same_go (l : List Int) (hl : l.length ≤ 100000000) (d : Nat) : ∀ (k i : Nat), i ≤ l.length → l.length - i = d → d < k → earshotref04_Same.l0 k l l (i : Int) = some true := by
  induction d with
  | zero =>
    intro k i h0 hd hk
    obtain ⟨k, rfl⟩ : ∃ m, k = m + 1 := ⟨k - 1, by omega⟩
    simp only [earshotref04_Same.l0]
    rw [if_neg (by omega)]
  | succ d ih =>
    intro k i h0 hd hk
    obtain ⟨k, rfl⟩ : ∃ m, k = m + 1 := ⟨k - 1, by omega⟩
    simp only [earshotref04_Same.l0]
    have hw : wrap64 ((i : Int) + 1) = ((i + 1 : Nat) : Int) := by unfold wrap64; omega
    rw [if_pos (by omega), if_pos (by omega), if_pos (by omega), if_pos trivial, hw]
    exact ih k (i + 1) (by omega) (by omega) (by omega)
theorem same_f (l : List Int) (hl : l.length ≤ 100000000) : earshotref04_Same.f (l.length + 1) l l = some true := by
  unfold earshotref04_Same.f
  rw [if_pos rfl]
  exact same_go l hl l.length _ 0 (by omega) (by omega) (by omega)
/-- Two rows that read the same. -/
theorem same_c {w0 : World} (A1 : Option Addr) (h c1 : Nat) (A2 : Option Addr) (c2 : Nat) (l1 l2 : List Int) (W : World) (hB : Below w0.heap.size w0 W) (hl : l1.length = h) (he : l1 = l2) (hC1 : (Kd.int .i64).C W A1 h l1) (hC2 : (Kd.int .i64).C W A2 h l2) (h1 : h ≤ c1) (h2 : h ≤ c2) (hh : h ≤ 1000000) :
    Calls Tryd.prog 19 #[.slice A1 h c1, .slice A2 h c2] W fun e w' => e = .returned (.bool true) ∧ Aside0 (Below w0.heap.size w0 w') ∧ Aside0 (Below W.heap.size W w') := by
  subst he
  subst hl
  exact (earshotref04_Same.calls _ A1 c1 l1 A2 c2 l1 true W hC1 h1 hC2 h2 (same_f l1 (by omega))).mono fun e w' ⟨a, ⟨n, b⟩⟩ => by
    subst b
    exact ⟨a, ⟨pw_below_drewN hB n⟩, ⟨pw_below_drewN (Below.refl _ _) n⟩⟩
theorem zeros_c (X : World) (g n : Nat) (hg : g = X.heap.size) (hn : n ≤ 1000000) : (Kd.int .i64).C (X.alloc (.cells (madeCells #[.int .i64 0] n) 3)) (some ⟨g, 0, none⟩) n (List.replicate n 0) := by
  subst hg
  have h := own_made X X.heap.size 3 .i64 n (Nat.le_refl _) (by omega)
  have hR := Kd.R_of_own (enc := Value.int .i64) (h1 := fun _ => rfl) (ok := fun _ => True) (xs := List.replicate n 0) (by rw [List.length_replicate]; exact h) (fun _ _ => trivial)
  obtain ⟨A, c, he, _, h2⟩ := Kd.R_reads hR
  rw [List.length_replicate] at he h2
  injection he with e1 e2 e3
  rw [e1]
  exact h2
/-- A callee that draws only, in a region that is walked once, in a world that has drawn before. -/
theorem quiet_add {P : Program} {f : FuncId} {args : Array Value} {W : World} {K x : Nat} {v : Value} (h : Calls P f args (W.drewN (K + x)) fun e w' => e = .returned v ∧ Drawn0 (W.drewN (K + x)) w') :
    Calls P f args (W.drewN (K + x)) fun e w'' => e = .returned v ∧ ∃ n, w'' = W.drewN (K + n) :=
  h.mono fun _ _ ⟨he, ⟨m, hm⟩⟩ => ⟨he, x + m, by rw [hm, World.drewN_drewN, Nat.add_assoc]⟩

theorem q_awake : earshotlaw09_awake.f 10 = some true := by decide +kernel
theorem turn_c {w0 : World} (A : Option Addr) (h c : Nat) (l : List Int) (k : Int) (W : World) (hB : Below w0.heap.size w0 W) (hl : l.length = h) (hC : (Kd.int .i64).C W A h l) (hh : h ≤ 1000000) (k0 : -9223372036854775808 ≤ k) (k1 : k ≤ 9223372036854775807) :
    Calls Tryd.prog 15 #[.slice A h c, .int .i64 k] W (CRes w0 W h (turnL l k)) :=
  (turn_go A h c l k W hl hC hh k0 k1).mono fun e w' ⟨v, he, hR, hb⟩ => by subst he; exact cres_of hB hR (by rw [turnL_length, hl]) hb
theorem awake_d {w0 : World} (W : World) (hB : Below w0.heap.size w0 W) (hG : GlobA W) : Calls Tryd.prog 13 #[] W fun e w' => e = .returned (.bool true) ∧ Aside0 (Below w0.heap.size w0 w') ∧ Aside0 (Below W.heap.size W w') :=
  (earshotlaw09_awake.calls 10 true W hG q_awake).mono fun e w' ⟨a, b⟩ => ⟨a, ⟨below_step hB b⟩, ⟨b⟩⟩

theorem real_d {w0 : World} (A : Option Addr) (h c : Nat) (l : List Int) (r : Int) (W : World) (hB : Below w0.heap.size w0 W) (hG : GlobA W) (hl : l.length = h) (hC : (Kd.int .i64).C W A h l) (hh : h ≤ 1000000) (hr : sp_part l cosT = r) :
    Calls Tryd.prog 16 #[.slice A h c] W fun e w' => e = .returned (.int .i64 r) ∧ Aside0 (Below w0.heap.size w0 w') ∧ Aside0 (Below W.heap.size W w') := by
  subst hr
  exact (real_go A h c l W hG hl hC hh).mono fun e w' ⟨a, ⟨n, b⟩⟩ => by
    subst b
    exact ⟨a, ⟨pw_below_drewN hB n⟩, ⟨pw_below_drewN (Below.refl _ _) n⟩⟩
theorem imag_d {w0 : World} (A : Option Addr) (h c : Nat) (l : List Int) (r : Int) (W : World) (hB : Below w0.heap.size w0 W) (hG : GlobA W) (hl : l.length = h) (hC : (Kd.int .i64).C W A h l) (hh : h ≤ 1000000) (hr : wrap64 (-(sp_part l sinT)) = r) :
    Calls Tryd.prog 17 #[.slice A h c] W fun e w' => e = .returned (.int .i64 r) ∧ Aside0 (Below w0.heap.size w0 w') ∧ Aside0 (Below W.heap.size W w') := by
  subst hr
  exact (imag_go A h c l W hG hl hC hh).mono fun e w' ⟨a, ⟨n, b⟩⟩ => by
    subst b
    exact ⟨a, ⟨pw_below_drewN hB n⟩, ⟨pw_below_drewN (Below.refl _ _) n⟩⟩

theorem sized_d {w0 : World} (A : Option Addr) (m c n : Nat) (l v : List Int) (s : Int) (W : World) (hB : Below w0.heap.size w0 W) (hl : l.length = m) (hC : (Kd.int .i64).C W A m l) (hc : m ≤ c) (hm : m ≤ 4000000000000000000) (hn : sizeOf_ s = n) (hv : sizedL n l = v) :
    Calls Tryd.prog 14 #[.slice A m c, .int .i64 s] W (CRes w0 W n v) := by
  subst hl
  subst hn
  subst hv
  refine (earshotlaw09_sized.calls A c l s (sizedL (sizeOf_ s) l) W hC hc (by unfold earshotlaw09_sized.f; rw [if_pos (decide_eq_true hm)])).mono fun e w' ⟨v, he, hR, hb⟩ => ?_
  subst he
  exact cres_of hB hR (sizedL_length _ _) hb

theorem sized_in {l : List Int} (h : In64 l) (n : Nat) : In64 (sizedL n l) := by
  intro x hx
  simp only [sizedL, List.mem_map] at hx
  obtain ⟨i, _, rfl⟩ := hx
  rw [← h.getD]
  exact ⟨W_lo _, W_hi _⟩
theorem sizeOf_may (s : Int) : sp_may (sizeOf_ s) = true := by
  unfold sizeOf_
  have m0 := Int.emod_nonneg s (show (6 : Int) ≠ 0 by decide)
  have m1 := Int.emod_lt_of_pos s (show (0 : Int) < 6 by decide)
  have : (s % 6).toNat = 0 ∨ (s % 6).toNat = 1 ∨ (s % 6).toNat = 2 ∨ (s % 6).toNat = 3 ∨ (s % 6).toNat = 4 ∨ (s % 6).toNat = 5 := by omega
  rcases this with e | e | e | e | e | e <;> rw [e] <;> decide
theorem part_quarter_cos (v : List Int) (hv : In64 v) (hm : sp_may v.length = true) (h2 : v.length ≠ 1) : sp_part (turnL v ((v.length / 2 : Nat) : Int)) cosT = wrap64 (-(sp_part v sinT)) := by
  rw [part_turn v hv cosT cos_half hm, part_S v sinT hm, W_neg_W]
  congr 1
  refine neg_S _ _ _ (fun i _ => ?_)
  rw [Int.add_mul]
  have : ((v.length / 2 : Nat) : Int) * ((32 / v.length : Nat) : Int) = 16 := by
    rcases sp_may_cases hm with e | e | e | e | e | e <;> first | (exact absurd e h2) | (rw [e]; rfl)
  rw [this, (T_all _).2.1, Int.mul_neg]
theorem part_quarter_sin (v : List Int) (hv : In64 v) (hm : sp_may v.length = true) (h2 : v.length ≠ 1) : sp_part (turnL v ((v.length / 2 : Nat) : Int)) sinT = sp_part v cosT := by
  rw [part_turn v hv sinT sin_half hm, part_S v cosT hm]
  congr 1
  refine S_congr (fun i _ => ?_)
  rw [Int.add_mul]
  have : ((v.length / 2 : Nat) : Int) * ((32 / v.length : Nat) : Int) = 16 := by
    rcases sp_may_cases hm with e | e | e | e | e | e <;> first | (exact absurd e h2) | (rw [e]; rfl)
  rw [this, (T_all _).2.2.1]

def earshotlaw09_SpinQuarter.f (l0 : List Int) (a1 : Int) : Option (Bool) := if decide (l0.length ≤ 4000000000000000000) && l0.all (fun x => decide (-9223372036854775808 ≤ x) && decide (x ≤ 9223372036854775807)) then some true else none
theorem real_c (A : Option Addr) (h c : Nat) (l : List Int) (r : Int) (W : World) (hG : GlobA W) (hl : l.length = h) (hC : (Kd.int .i64).C W A h l) (hh : h ≤ 1000000) (hr : sp_part l cosT = r) :
    Calls Tryd.prog 16 #[.slice A h c] W fun e w' => e = .returned (.int .i64 r) ∧ Drawn0 W w' := by
  subst hr
  exact real_go A h c l W hG hl hC hh
theorem imag_c (A : Option Addr) (h c : Nat) (l : List Int) (r : Int) (W : World) (hG : GlobA W) (hl : l.length = h) (hC : (Kd.int .i64).C W A h l) (hh : h ≤ 1000000) (hr : wrap64 (-(sp_part l sinT)) = r) :
    Calls Tryd.prog 17 #[.slice A h c] W fun e w' => e = .returned (.int .i64 r) ∧ Drawn0 W w' := by
  subst hr
  exact imag_go A h c l W hG hl hC hh
theorem sized_c {w0 : World} (A : Option Addr) (m c n : Nat) (l : List Int) (s : Int) (W : World) (hB : Below w0.heap.size w0 W) (hl : l.length = m) (hC : (Kd.int .i64).C W A m l) (hc : m ≤ c) (hm : m ≤ 4000000000000000000) (hn : sizeOf_ s = n) :
    Calls Tryd.prog 14 #[.slice A m c, .int .i64 s] W (CRes w0 W n (sizedL n l)) := by
  subst hl
  subst hn
  refine (earshotlaw09_sized.calls A c l s (sizedL (sizeOf_ s) l) W hC hc (by unfold earshotlaw09_sized.f; rw [if_pos (decide_eq_true hm)])).mono fun e w' ⟨v, he, hR, hb⟩ => ?_
  subst he
  exact cres_of hB hR (sizedL_length _ _) hb
set_option maxHeartbeats 16000000 in
theorem quarter_go (A0 : Option Addr) (m c0 : Nat) (l0 : List Int) (s : Int) (w : World) (hG : GlobA w) (hl : l0.length = m) (hC : Kd.C (Kd.int .i64) w A0 m l0) (hmc : m ≤ c0) (hm : m ≤ 4000000000000000000) (hv : In64 l0) :
    Calls Tryd.prog 3 #[.slice A0 m c0, .int .i64 s] w fun e w' => e = .returned (.bool true) ∧ Below w.heap.size w w' := by
  have hin := sized_in hv (sizeOf_ s)
  have hmay := sizeOf_may s
  obtain ⟨n, hn⟩ : ∃ n, sizeOf_ s = n := ⟨_, rfl⟩
  rw [hn] at hin hmay
  obtain ⟨v, hvv⟩ : ∃ v, sizedL n l0 = v := ⟨_, rfl⟩
  have hvl : v.length = n := by rw [← hvv, sizedL_length]
  rw [hvv] at hin
  have hm2 := hmay
  rw [← hvl] at hm2
  obtain ⟨n0, _, n32⟩ := may_s hmay
  obtain ⟨R, hR⟩ : ∃ R, sp_part v cosT = R := ⟨_, rfl⟩
  obtain ⟨I, hI⟩ : ∃ I, wrap64 (-(sp_part v sinT)) = I := ⟨_, rfl⟩
  have t1 : sp_part (turnL v (n : Int)) cosT = wrap64 (-R) := by rw [← hvl, part_half v hin cosT cos_half hm2, hR]
  have t2 : wrap64 (-(sp_part (turnL v (n : Int)) sinT)) = wrap64 (-I) := by rw [← hvl, part_half v hin sinT sin_half hm2, hI]
  have HT1 := Aside0.mk t1
  have HT2 := Aside0.mk t2
  have HR := Aside0.mk hR
  have HI := Aside0.mk hI
  have HG := Aside0.mk hG
  have HA := Aside0.mk q_awake
  have HC := Aside0.mk hC
  have HL := Aside0.mk hl
  have HN := Aside0.mk hn
  have HS := Aside0.mk hvv
  have HVL := Aside0.mk hvl
  have HTL : Aside0 ((turnL v (n : Int)).length = n) := ⟨by rw [turnL_length, hvl]⟩
  by_cases h1 : n = 1
  · subst h1
    obtain ⟨x, hx⟩ : ∃ x, v.getD 0 0 = x := ⟨_, rfl⟩
    have r1 : IntKind.i64.wrap (16384 * x) = R := by
      rw [i64_w, ← hR, part_S v cosT hm2, hvl]
      simp only [S, Int.zero_add]
      rw [show cosT (((0 : Nat) : Int) * ((32 / 1 : Nat) : Int)) = 16384 by decide +kernel, Int.mul_comm, hx]
    have i1 : I = 0 := by
      rw [← hI]
      have : sp_part v sinT = 0 := by
        rw [part_S v sinT hm2, hvl]
        simp only [S, Int.zero_add]
        rw [show sinT (((0 : Nat) : Int) * ((32 / 1 : Nat) : Int)) = 0 by decide +kernel, Int.mul_zero]
        exact W_in (by decide) (by decide)
      rw [this]
      exact W_in (a := -0) (by decide) (by decide)
    rw [i1] at HI
    have HR1 := Aside0.mk r1
    have HX := Aside0.mk hx
    have hz : wrap64 (-0) = 0 := W_in (a := -0) (by decide) (by decide)
    rw [i1, hz] at HT2
    rw [show ((1 : Nat) : Int) = 1 from rfl] at HT1 HT2 HTL
    clear hG hC hl hin hmay hn hvv hvl hm2 hR hI t1 t2 hv n0 n32 r1 i1 hx hz
    go_enter Tryd.func3, Tryd.ntmps3
    go_wp2_with (first
      | (go_at_call 13; (with_reducible refine (earshotlaw09_awake.calls 10 true _ HG.out HA.out).mono ?_); rintro e w2 ⟨rfl, hb⟩; have HB2 := Aside0.mk hb; clear hb)
      | (go_at_call 14; (with_reducible refine (sized_c (w0 := w) A0 m c0 1 l0 s _ HB2.out HL.out (Kd.C_below HC.out HB2.out) hmc hm HN.out).mono ?_); rintro e w3 ⟨A3, c3, rfl, l3, C3, HB3, S3⟩; rw [HS.out] at C3; clear HB2)
      | (go_at_call 15; (with_reducible refine (turn_c (w0 := w) A3 1 c3 v (1 : Int) _ HB3.out HVL.out C3.out (by decide) (by decide) (by decide)).mono ?_); rintro e w4 ⟨A4, c4, rfl, l4, C4, HB4, S4⟩; have D4 := Aside0.mk (Kd.C_below C3.out S4.out); have G4 := Aside0.mk (HG.out.below HB4.out); clear C3 HB3)
      | (go_at_call 16; (with_reducible refine (real_c A4 1 c4 (turnL v (1 : Int)) _ _ (by first | exact G4.out | exact G4.out.drewN _) HTL.out (by first | exact C4.out | exact Kd.C_drewN C4.out _) (by omega) HT1.out).mono ?_); rintro e w' ⟨rfl, ⟨nd, rfl⟩⟩)
      | (go_at_call 16; (with_reducible refine (real_c A3 1 c3 v R _ (G4.out.drewN _) HVL.out (Kd.C_drewN D4.out _) (by omega) HR.out).mono ?_); rintro e w' ⟨rfl, ⟨nd, rfl⟩⟩)
      | (go_at_call 17; (with_reducible refine (imag_c A4 1 c4 (turnL v (1 : Int)) _ _ (G4.out.drewN _) HTL.out (Kd.C_drewN C4.out _) (by omega) HT2.out).mono ?_); rintro e w' ⟨rfl, ⟨nd, rfl⟩⟩)
      | (go_at_call 17; (with_reducible refine (imag_c A3 1 c3 v 0 _ (by first | exact G4.out.drewN _ | exact G7.out | exact G7.out.drewN _) HVL.out (by first | exact Kd.C_drewN D4.out _ | exact D7.out | exact Kd.C_drewN D7.out _) (by omega) HI.out).mono ?_); rintro e w' ⟨rfl, ⟨nd, rfl⟩⟩))
    obtain ⟨ad, rfl, hcs⟩ := sp_ad D4.out (by decide)
    have hc0 := hcs 0 (by decide)
    rw [HX.out, show ad.add 0 = ad by simp [Addr.add]] at hc0
    have r1 := HR1.out
    clear hcs
    go_quiet (first
      | (go_at_call 16; refine quiet_add (real_c (some ad) 1 c3 v R _ (by repeat (first | exact G4.out | apply GlobA.drewN)) HVL.out (by repeat (first | exact D4.out | refine Kd.C_drewN ?_ _)) (by decide) HR.out))
      | (go_at_call 17; refine quiet_add (imag_c (some ad) 1 c3 v 0 _ (by repeat (first | exact G4.out | apply GlobA.drewN)) HVL.out (by repeat (first | exact D4.out | refine Kd.C_drewN ?_ _)) (by decide) HI.out)))
    go_wp2
    go_ret
    exact ⟨rfl, by repeat (first | exact HB4.out | apply pw_below_drewN)⟩
  · have u1 : sp_part (turnL v ((n : Int) / 2)) cosT = I := by rw [show (n : Int) / 2 = ((n / 2 : Nat) : Int) by omega, ← hvl, part_quarter_cos v hin hm2 (by omega), hI]
    have u2 : wrap64 (-(sp_part (turnL v ((n : Int) / 2)) sinT)) = wrap64 (-R) := by rw [show (n : Int) / 2 = ((n / 2 : Nat) : Int) by omega, ← hvl, part_quarter_sin v hin hm2 (by omega), hR]
    have HU1 := Aside0.mk u1
    have HU2 := Aside0.mk u2
    have HUL : Aside0 ((turnL v ((n : Int) / 2)).length = n) := ⟨by rw [turnL_length, hvl]⟩
    have hd : ((n : Int) == 1) = false := by simp; omega
    clear hG hC hl hin hmay hn hvv hvl hm2 hR hI t1 t2 u1 u2 hv h1
    go_enter Tryd.func3, Tryd.ntmps3
    go_wp2_with (first
      | (go_at_call 13; (with_reducible refine (earshotlaw09_awake.calls 10 true _ HG.out HA.out).mono ?_); rintro e w2 ⟨rfl, hb⟩; have HB2 := Aside0.mk hb; clear hb)
      | (go_at_call 14; (with_reducible refine (sized_c (w0 := w) A0 m c0 n l0 s _ HB2.out HL.out (Kd.C_below HC.out HB2.out) hmc hm HN.out).mono ?_); rintro e w3 ⟨A3, c3, rfl, l3, C3, HB3, S3⟩; rw [HS.out] at C3; clear HB2)
      | (go_at_call 15; (with_reducible refine (turn_c (w0 := w) A3 n c3 v (n : Int) _ HB3.out HVL.out C3.out (by omega) (by omega) (by omega)).mono ?_); rintro e w4 ⟨A4, c4, rfl, l4, C4, HB4, S4⟩; have D4 := Aside0.mk (Kd.C_below C3.out S4.out); have G4 := Aside0.mk (HG.out.below HB4.out); clear C3 HB3)
      | (go_at_call 16; (with_reducible refine (real_c A4 n c4 (turnL v (n : Int)) _ _ (by first | exact G4.out | exact G4.out.drewN _) HTL.out (by first | exact C4.out | exact Kd.C_drewN C4.out _) (by omega) HT1.out).mono ?_); rintro e w' ⟨rfl, ⟨nd, rfl⟩⟩)
      | (go_at_call 16; (with_reducible refine (real_c A3 n c3 v R _ (G4.out.drewN _) HVL.out (Kd.C_drewN D4.out _) (by omega) HR.out).mono ?_); rintro e w' ⟨rfl, ⟨nd, rfl⟩⟩)
      | (go_at_call 17; (with_reducible refine (imag_c A4 n c4 (turnL v (n : Int)) _ _ (G4.out.drewN _) HTL.out (Kd.C_drewN C4.out _) (by omega) HT2.out).mono ?_); rintro e w' ⟨rfl, ⟨nd, rfl⟩⟩)
      | (go_at_call 17; (with_reducible refine (imag_c A3 n c3 v I _ (by first | exact G4.out.drewN _ | exact G7.out | exact G7.out.drewN _) HVL.out (by first | exact Kd.C_drewN D4.out _ | exact D7.out | exact Kd.C_drewN D7.out _) (by omega) HI.out).mono ?_); rintro e w' ⟨rfl, ⟨nd, rfl⟩⟩)
      | (go_at_call 15; (with_reducible refine (turn_c (w0 := w) A3 n c3 v ((n : Int) / 2) _ (pw_below_drewN HB4.out _) HVL.out (Kd.C_drewN D4.out _) (by omega) (by omega) (by omega)).mono ?_); rintro e w7 ⟨A7, c7, rfl, l7, C7, HB7, S7⟩; have D7 := Aside0.mk (Kd.C_below (Kd.C_drewN D4.out _) S7.out); have G7 := Aside0.mk (HG.out.below HB7.out); clear D4 G4 HB4 C4)
      | (go_at_call 16; (with_reducible refine (real_c A7 n c7 (turnL v ((n : Int) / 2)) _ _ (by first | exact G7.out | exact G7.out.drewN _) HUL.out (by first | exact C7.out | exact Kd.C_drewN C7.out _) (by omega) HU1.out).mono ?_); rintro e w' ⟨rfl, ⟨nd, rfl⟩⟩)
      | (go_at_call 17; (with_reducible refine (imag_c A7 n c7 (turnL v ((n : Int) / 2)) _ _ (by first | exact G7.out | exact G7.out.drewN _) HUL.out (by first | exact C7.out | exact Kd.C_drewN C7.out _) (by omega) HU2.out).mono ?_); rintro e w' ⟨rfl, ⟨nd, rfl⟩⟩)
      | (go_at_call 16; (with_reducible refine (real_c A3 n c3 v R _ (G7.out.drewN _) HVL.out (Kd.C_drewN D7.out _) (by omega) HR.out).mono ?_); rintro e w' ⟨rfl, ⟨nd, rfl⟩⟩))
    go_ret
    exact ⟨rfl, pw_below_drewN HB7.out _⟩
theorem earshotlaw09_SpinQuarter.calls (A0 : Option Addr) (c0 : Nat) (l0 : List Int) (a1 : Int) (r : Bool) (w : World) (hG : GlobA w) (hr0 : Kd.C (Kd.int .i64) w A0 l0.length l0) (hc0 : l0.length ≤ c0) (h : earshotlaw09_SpinQuarter.f l0 a1 = some r) :
    Calls Tryd.prog 3 #[.slice A0 l0.length c0, .int .i64 a1] w fun e w' => e = .returned (.bool r) ∧ Below w.heap.size w w' := by
  unfold earshotlaw09_SpinQuarter.f at h
  split at h
  case isFalse => cases h
  rename_i hz
  obtain rfl := Option.some.inj h
  simp only [Bool.and_eq_true, decide_eq_true_eq, List.all_eq_true] at hz
  exact quarter_go A0 _ c0 l0 a1 w hG rfl hr0 hc0 hz.1 (fun x hx => hz.2 x hx)

/-- THE ONE PURE STATEMENT of earshotlaw09_SpinQuarter: yours. -/
def earshotlaw09_SpinQuarter.Pure : Prop := ∀ (l0 : List Int) (a1 : Int), l0.length ≤ maxLen → l0.length * 8 ≤ 140737488351232 → (∀ x ∈ l0, (Lit.int .i64 x).wf = true) → (Lit.int .i64 a1).wf = true → earshotlaw09_SpinQuarter.f l0 a1 = some true
theorem earshotlaw09_SpinQuarter.walk (P : earshotlaw09_SpinQuarter.Pure) (a0 : Option Addr) (len0 cap0 : Nat) (z0 : List Int) (a1 : Int) (w : World) (w0 : (a0 = none ∧ len0 = 0 ∧ cap0 = 0 ∧ z0 = []) ∨ ∃ x, a0 = some x ∧ len0 ≤ cap0 ∧ cap0 ≤ maxLen ∧ z0.length = cap0 ∧ (∀ i, i < z0.length → w.cell? (x.add i) = some (.int .i64 (z0.getD i 0))) ∧ ∀ n ∈ z0, (Lit.int .i64 n).wf = true) (y0 : len0 * 8 ≤ 140737488351232) (w1 : (Lit.int .i64 a1).wf = true) (hG : GlobA w) :
    Calls Tryd.prog 3 #[.slice a0 len0 cap0, .int .i64 a1] w fun e w' => e = .returned (.bool true) ∧ Below w.heap.size w w' := by
  obtain ⟨l0, rfl, hr0, hm0, hw0, hc0⟩ := ReadsInt.ofRowC w0
  have h := P l0 a1 hm0 y0 hw0 w1
  refine (earshotlaw09_SpinQuarter.calls _ _ l0 a1 true w hG (Kd.C_of_reads (d := (0 : Int)) (h1 := fun _ => rfl) hr0) hc0 h).mono ?_
  rintro e w' ⟨rfl, hd⟩
  exact ⟨rfl, hd⟩

end Go.Proofs.YtphmfecabbellaaDoor.PSpinQuarter
