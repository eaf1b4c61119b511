-- Written by a program of this work (wip/tools) for this claim; Lean checks it.
import Derived.Test.YtphmfecabbellaaDoorPFftBackx0
import Derived.Test.YtphmfecabbellaaDoorPFftBackx1
namespace Go.Proofs.YtphmfecabbellaaDoor.PFftBack
open Go.RowKit Go.Proofs.YtphmfecabbellaaDoorW.PrintWords Go.Proofs.YtphmfecabbellaaDoorW.PrintLast Go.Proofs.YtphmfecabbellaaDoorW.PrintMore
attribute [local go_sem] max2_int min2_int max_two min_two max_three min_three max_four min_four   -- for this text's walks alone
set_option linter.unusedVariables false
set_option linter.unusedSimpArgs false

/-! ### earshotlaw10_sized: function 25 -/



def sizedL (n : Nat) (l : List Int) : List Int := (List.range n).map fun i => l.getD i 0
theorem sizedL_length (n : Nat) (l : List Int) : (sizedL n l).length = n := by simp [sizedL]
theorem sizedL_getD (n : Nat) (l : List Int) (i : Nat) (hi : i < n) : (sizedL n l).getD i 0 = l.getD i 0 := getD_map_range _ _ _ hi
def sizeOf_ (s : Int) : Nat := 2 * 2 ^ (s % 6).toNat
theorem size_rem {s e : Int} (h : s % 6 = e) : Int.tmod (IntKind.i64.wrap (Int.tmod s 6 + 6)) 6 = e ∧ Int.tmod (wrap64 (Int.tmod s 6 + 6)) 6 = e ∧ Int.tmod (Int.tmod s 6 + 6) 6 = e := by
  have a := Int.lt_tmod_of_pos s (show (0 : Int) < 6 by decide)
  have b := Int.tmod_lt_of_pos s (show (0 : Int) < 6 by decide)
  have c := Int.tmod_eq_emod (a := s) (b := 6)
  have k : IntKind.i64.wrap (Int.tmod s 6 + 6) = Int.tmod s 6 + 6 := by rw [IntKind.wrap_i64]; omega
  have k2 : wrap64 (Int.tmod s 6 + 6) = Int.tmod s 6 + 6 := by unfold wrap64; omega
  have d : Int.tmod (Int.tmod s 6 + 6) 6 = e := by
    rw [Int.tmod_eq_emod_of_nonneg (by omega)]
    split at c <;> omega
  exact ⟨by rw [k]; exact d, by rw [k2]; exact d, d⟩
def earshotlaw10_sized.f (l0 : List Int) (a1 : Int) : Option (List Int) := if decide (l0.length ≤ 4000000000000000000) then some (sizedL (sizeOf_ a1) l0) else none
set_option maxHeartbeats 8000000 in
theorem sized_0 (A0 : Option Addr) (m c0 : Nat) (l0 : List Int) (a1 : Int) (w : World) (hl : l0.length = m) (hr0 : Kd.C (Kd.int .i64) w A0 m l0) (hm : m ≤ 4000000000000000000) (he : a1 % 6 = 0) :
    Calls Tryd.prog 25 #[.slice A0 m c0, .int .i64 a1] w fun e w' => ∃ v0_ : Value, e = .returned v0_ ∧ Kd.R (Kd.int .i64) 3 w' w.heap.size (fun _ => True) v0_ (sizedL 2 l0) ∧ Below w.heap.size w w' := by
  obtain ⟨q1, q2, q3⟩ := size_rem he
  have hmk := print_make 22 3 .i64 8 Tryd.underlying22 turn_info (by decide) 2 (by omega)
  simp only [Int.cast_ofNat_Int] at hmk
  have HC := Aside0.mk hr0
  have HL := Aside0.mk hl
  clear hl hr0 he
  go_enter Tryd.func25, Tryd.ntmps25
  go_wp2
  go_loopw [6] (fun v wr => ∃ (i : Nat) (xs : List Int), i ≤ 2 ∧ i ≤ m ∧ v = .int .i64 (i : Int) ∧ Aside0 (xs.length = 2) ∧ Aside0 (∀ j, j < 2 → xs.getD j 0 = if j < i then l0.getD j 0 else 0) ∧ Aside0 (wr.ownsRow w.heap.size 3 1 (.slice (some ⟨w.heap.size, 0, none⟩) 2 2) 2 (nums .i64 xs)) ∧ Aside0 (Below w.heap.size w wr)) (fun v _ => 2 - (intOf v).toNat)
  case atStart =>
    refine ⟨0, List.replicate 2 0, by omega, by omega, rfl, ⟨by simp⟩, ⟨fun j hj => by rw [if_neg (by omega), List.getD_eq_getElem?_getD, List.getElem?_replicate, if_pos hj]; rfl⟩, ⟨?_⟩, ⟨by repeat (first | exact Below.refl _ _ | apply below_alloc | apply pw_below_drewN)⟩⟩
    exact own_made w w.heap.size 3 .i64 2 (Nat.le_refl _) (by omega)
  case round =>
    obtain ⟨i, xs, hi, him, rfl, HX, HJ, HO, HB⟩ := hrel
    by_cases hlt : i < 2 ∧ i < m
    · obtain ⟨hlt, hltm⟩ := hlt
      obtain ⟨ad, rfl, hcs⟩ := sp_ad HC.out (by omega)
      have hcell := sp_cell (Kd.C_below HC.out HB.out) i hltm
      obtain ⟨⟨y, hy⟩, hfr⟩ := own_free HO.out i hlt
      obtain ⟨x, hx⟩ : ∃ x, l0.getD i 0 = x := ⟨_, rfl⟩
      rw [hx] at hcell
      have HXV := Aside0.mk hx
      clear hx hcs
      go_wp2
      go_roundw
      case rel =>
        have hst := own_store HO.out (i : Int) x
        rw [Int.toNat_natCast] at hst
        refine ⟨i + 1, _, by omega, by omega, by go_num, ⟨by rw [List.length_set, HX.out]⟩, ⟨?_⟩, ⟨hst.1⟩, ⟨Below.grown HB.out hst.2 HB.out.size (fun k hk => by injection hk with hk; omega)⟩⟩
        intro j hj
        by_cases e : j = i
        · subst e
          rw [if_pos (by omega), HXV.out, List.getD_eq_getElem?_getD, List.getElem?_set_self (by rw [HX.out]; exact hlt)]; rfl
        · have := HJ.out j hj
          rw [List.getD_eq_getElem?_getD] at this ⊢
          rw [List.getElem?_set_ne (fun h => e h.symm), this]
          by_cases h2 : j < i
          · rw [if_pos h2, if_pos (by omega)]
          · rw [if_neg h2, if_neg (by omega)]
      case measure => simp [intOf]; omega
    · have HU : Aside0 (xs = sizedL 2 l0) := ⟨by
        refine row_ext (by rw [HX.out, sizedL_length]) (fun j hj => ?_)
        rw [HX.out] at hj
        rw [HJ.out j hj, sizedL_getD _ _ _ hj]
        split
        · rfl
        · rw [List.getD_eq_getElem?_getD, List.getElem?_eq_none (by rw [HL.out]; omega)]; rfl⟩
      have hex : i = 2 ∨ i < 2 ∧ m = i := by omega
      clear hlt
      rcases hex with rfl | ⟨h1, rfl⟩
      all_goals
        go_wp2
        go_ret
        refine ⟨_, rfl, ?_, HB.out⟩
        rw [← HU.out]
        exact Kd.R_of_own (enc := Value.int .i64) (h1 := fun _ => rfl) (ok := fun _ => True) (xs := xs) (by rw [HX.out]; exact HO.out) (fun _ _ => trivial)
set_option maxHeartbeats 8000000 in
theorem sized_1 (A0 : Option Addr) (m c0 : Nat) (l0 : List Int) (a1 : Int) (w : World) (hl : l0.length = m) (hr0 : Kd.C (Kd.int .i64) w A0 m l0) (hm : m ≤ 4000000000000000000) (he : a1 % 6 = 1) :
    Calls Tryd.prog 25 #[.slice A0 m c0, .int .i64 a1] w fun e w' => ∃ v0_ : Value, e = .returned v0_ ∧ Kd.R (Kd.int .i64) 3 w' w.heap.size (fun _ => True) v0_ (sizedL 4 l0) ∧ Below w.heap.size w w' := by
  obtain ⟨q1, q2, q3⟩ := size_rem he
  have hmk := print_make 22 3 .i64 8 Tryd.underlying22 turn_info (by decide) 4 (by omega)
  simp only [Int.cast_ofNat_Int] at hmk
  have HC := Aside0.mk hr0
  have HL := Aside0.mk hl
  clear hl hr0 he
  go_enter Tryd.func25, Tryd.ntmps25
  go_wp2
  go_loopw [6] (fun v wr => ∃ (i : Nat) (xs : List Int), i ≤ 4 ∧ i ≤ m ∧ v = .int .i64 (i : Int) ∧ Aside0 (xs.length = 4) ∧ Aside0 (∀ j, j < 4 → xs.getD j 0 = if j < i then l0.getD j 0 else 0) ∧ Aside0 (wr.ownsRow w.heap.size 3 1 (.slice (some ⟨w.heap.size, 0, none⟩) 4 4) 4 (nums .i64 xs)) ∧ Aside0 (Below w.heap.size w wr)) (fun v _ => 4 - (intOf v).toNat)
  case atStart =>
    refine ⟨0, List.replicate 4 0, by omega, by omega, rfl, ⟨by simp⟩, ⟨fun j hj => by rw [if_neg (by omega), List.getD_eq_getElem?_getD, List.getElem?_replicate, if_pos hj]; rfl⟩, ⟨?_⟩, ⟨by repeat (first | exact Below.refl _ _ | apply below_alloc | apply pw_below_drewN)⟩⟩
    exact own_made w w.heap.size 3 .i64 4 (Nat.le_refl _) (by omega)
  case round =>
    obtain ⟨i, xs, hi, him, rfl, HX, HJ, HO, HB⟩ := hrel
    by_cases hlt : i < 4 ∧ i < m
    · obtain ⟨hlt, hltm⟩ := hlt
      obtain ⟨ad, rfl, hcs⟩ := sp_ad HC.out (by omega)
      have hcell := sp_cell (Kd.C_below HC.out HB.out) i hltm
      obtain ⟨⟨y, hy⟩, hfr⟩ := own_free HO.out i hlt
      obtain ⟨x, hx⟩ : ∃ x, l0.getD i 0 = x := ⟨_, rfl⟩
      rw [hx] at hcell
      have HXV := Aside0.mk hx
      clear hx hcs
      go_wp2
      go_roundw
      case rel =>
        have hst := own_store HO.out (i : Int) x
        rw [Int.toNat_natCast] at hst
        refine ⟨i + 1, _, by omega, by omega, by go_num, ⟨by rw [List.length_set, HX.out]⟩, ⟨?_⟩, ⟨hst.1⟩, ⟨Below.grown HB.out hst.2 HB.out.size (fun k hk => by injection hk with hk; omega)⟩⟩
        intro j hj
        by_cases e : j = i
        · subst e
          rw [if_pos (by omega), HXV.out, List.getD_eq_getElem?_getD, List.getElem?_set_self (by rw [HX.out]; exact hlt)]; rfl
        · have := HJ.out j hj
          rw [List.getD_eq_getElem?_getD] at this ⊢
          rw [List.getElem?_set_ne (fun h => e h.symm), this]
          by_cases h2 : j < i
          · rw [if_pos h2, if_pos (by omega)]
          · rw [if_neg h2, if_neg (by omega)]
      case measure => simp [intOf]; omega
    · have HU : Aside0 (xs = sizedL 4 l0) := ⟨by
        refine row_ext (by rw [HX.out, sizedL_length]) (fun j hj => ?_)
        rw [HX.out] at hj
        rw [HJ.out j hj, sizedL_getD _ _ _ hj]
        split
        · rfl
        · rw [List.getD_eq_getElem?_getD, List.getElem?_eq_none (by rw [HL.out]; omega)]; rfl⟩
      have hex : i = 4 ∨ i < 4 ∧ m = i := by omega
      clear hlt
      rcases hex with rfl | ⟨h1, rfl⟩
      all_goals
        go_wp2
        go_ret
        refine ⟨_, rfl, ?_, HB.out⟩
        rw [← HU.out]
        exact Kd.R_of_own (enc := Value.int .i64) (h1 := fun _ => rfl) (ok := fun _ => True) (xs := xs) (by rw [HX.out]; exact HO.out) (fun _ _ => trivial)
set_option maxHeartbeats 8000000 in
theorem sized_2 (A0 : Option Addr) (m c0 : Nat) (l0 : List Int) (a1 : Int) (w : World) (hl : l0.length = m) (hr0 : Kd.C (Kd.int .i64) w A0 m l0) (hm : m ≤ 4000000000000000000) (he : a1 % 6 = 2) :
    Calls Tryd.prog 25 #[.slice A0 m c0, .int .i64 a1] w fun e w' => ∃ v0_ : Value, e = .returned v0_ ∧ Kd.R (Kd.int .i64) 3 w' w.heap.size (fun _ => True) v0_ (sizedL 8 l0) ∧ Below w.heap.size w w' := by
  obtain ⟨q1, q2, q3⟩ := size_rem he
  have hmk := print_make 22 3 .i64 8 Tryd.underlying22 turn_info (by decide) 8 (by omega)
  simp only [Int.cast_ofNat_Int] at hmk
  have HC := Aside0.mk hr0
  have HL := Aside0.mk hl
  clear hl hr0 he
  go_enter Tryd.func25, Tryd.ntmps25
  go_wp2
  go_loopw [6] (fun v wr => ∃ (i : Nat) (xs : List Int), i ≤ 8 ∧ i ≤ m ∧ v = .int .i64 (i : Int) ∧ Aside0 (xs.length = 8) ∧ Aside0 (∀ j, j < 8 → xs.getD j 0 = if j < i then l0.getD j 0 else 0) ∧ Aside0 (wr.ownsRow w.heap.size 3 1 (.slice (some ⟨w.heap.size, 0, none⟩) 8 8) 8 (nums .i64 xs)) ∧ Aside0 (Below w.heap.size w wr)) (fun v _ => 8 - (intOf v).toNat)
  case atStart =>
    refine ⟨0, List.replicate 8 0, by omega, by omega, rfl, ⟨by simp⟩, ⟨fun j hj => by rw [if_neg (by omega), List.getD_eq_getElem?_getD, List.getElem?_replicate, if_pos hj]; rfl⟩, ⟨?_⟩, ⟨by repeat (first | exact Below.refl _ _ | apply below_alloc | apply pw_below_drewN)⟩⟩
    exact own_made w w.heap.size 3 .i64 8 (Nat.le_refl _) (by omega)
  case round =>
    obtain ⟨i, xs, hi, him, rfl, HX, HJ, HO, HB⟩ := hrel
    by_cases hlt : i < 8 ∧ i < m
    · obtain ⟨hlt, hltm⟩ := hlt
      obtain ⟨ad, rfl, hcs⟩ := sp_ad HC.out (by omega)
      have hcell := sp_cell (Kd.C_below HC.out HB.out) i hltm
      obtain ⟨⟨y, hy⟩, hfr⟩ := own_free HO.out i hlt
      obtain ⟨x, hx⟩ : ∃ x, l0.getD i 0 = x := ⟨_, rfl⟩
      rw [hx] at hcell
      have HXV := Aside0.mk hx
      clear hx hcs
      go_wp2
      go_roundw
      case rel =>
        have hst := own_store HO.out (i : Int) x
        rw [Int.toNat_natCast] at hst
        refine ⟨i + 1, _, by omega, by omega, by go_num, ⟨by rw [List.length_set, HX.out]⟩, ⟨?_⟩, ⟨hst.1⟩, ⟨Below.grown HB.out hst.2 HB.out.size (fun k hk => by injection hk with hk; omega)⟩⟩
        intro j hj
        by_cases e : j = i
        · subst e
          rw [if_pos (by omega), HXV.out, List.getD_eq_getElem?_getD, List.getElem?_set_self (by rw [HX.out]; exact hlt)]; rfl
        · have := HJ.out j hj
          rw [List.getD_eq_getElem?_getD] at this ⊢
          rw [List.getElem?_set_ne (fun h => e h.symm), this]
          by_cases h2 : j < i
          · rw [if_pos h2, if_pos (by omega)]
          · rw [if_neg h2, if_neg (by omega)]
      case measure => simp [intOf]; omega
    · have HU : Aside0 (xs = sizedL 8 l0) := ⟨by
        refine row_ext (by rw [HX.out, sizedL_length]) (fun j hj => ?_)
        rw [HX.out] at hj
        rw [HJ.out j hj, sizedL_getD _ _ _ hj]
        split
        · rfl
        · rw [List.getD_eq_getElem?_getD, List.getElem?_eq_none (by rw [HL.out]; omega)]; rfl⟩
      have hex : i = 8 ∨ i < 8 ∧ m = i := by omega
      clear hlt
      rcases hex with rfl | ⟨h1, rfl⟩
      all_goals
        go_wp2
        go_ret
        refine ⟨_, rfl, ?_, HB.out⟩
        rw [← HU.out]
        exact Kd.R_of_own (enc := Value.int .i64) (h1 := fun _ => rfl) (ok := fun _ => True) (xs := xs) (by rw [HX.out]; exact HO.out) (fun _ _ => trivial)
set_option maxHeartbeats 8000000 in
theorem sized_3 (A0 : Option Addr) (m c0 : Nat) (l0 : List Int) (a1 : Int) (w : World) (hl : l0.length = m) (hr0 : Kd.C (Kd.int .i64) w A0 m l0) (hm : m ≤ 4000000000000000000) (he : a1 % 6 = 3) :
    Calls Tryd.prog 25 #[.slice A0 m c0, .int .i64 a1] w fun e w' => ∃ v0_ : Value, e = .returned v0_ ∧ Kd.R (Kd.int .i64) 3 w' w.heap.size (fun _ => True) v0_ (sizedL 16 l0) ∧ Below w.heap.size w w' := by
  obtain ⟨q1, q2, q3⟩ := size_rem he
  have hmk := print_make 22 3 .i64 8 Tryd.underlying22 turn_info (by decide) 16 (by omega)
  simp only [Int.cast_ofNat_Int] at hmk
  have HC := Aside0.mk hr0
  have HL := Aside0.mk hl
  clear hl hr0 he
  go_enter Tryd.func25, Tryd.ntmps25
  go_wp2
  go_loopw [6] (fun v wr => ∃ (i : Nat) (xs : List Int), i ≤ 16 ∧ i ≤ m ∧ v = .int .i64 (i : Int) ∧ Aside0 (xs.length = 16) ∧ Aside0 (∀ j, j < 16 → xs.getD j 0 = if j < i then l0.getD j 0 else 0) ∧ Aside0 (wr.ownsRow w.heap.size 3 1 (.slice (some ⟨w.heap.size, 0, none⟩) 16 16) 16 (nums .i64 xs)) ∧ Aside0 (Below w.heap.size w wr)) (fun v _ => 16 - (intOf v).toNat)
  case atStart =>
    refine ⟨0, List.replicate 16 0, by omega, by omega, rfl, ⟨by simp⟩, ⟨fun j hj => by rw [if_neg (by omega), List.getD_eq_getElem?_getD, List.getElem?_replicate, if_pos hj]; rfl⟩, ⟨?_⟩, ⟨by repeat (first | exact Below.refl _ _ | apply below_alloc | apply pw_below_drewN)⟩⟩
    exact own_made w w.heap.size 3 .i64 16 (Nat.le_refl _) (by omega)
  case round =>
    obtain ⟨i, xs, hi, him, rfl, HX, HJ, HO, HB⟩ := hrel
    by_cases hlt : i < 16 ∧ i < m
    · obtain ⟨hlt, hltm⟩ := hlt
      obtain ⟨ad, rfl, hcs⟩ := sp_ad HC.out (by omega)
      have hcell := sp_cell (Kd.C_below HC.out HB.out) i hltm
      obtain ⟨⟨y, hy⟩, hfr⟩ := own_free HO.out i hlt
      obtain ⟨x, hx⟩ : ∃ x, l0.getD i 0 = x := ⟨_, rfl⟩
      rw [hx] at hcell
      have HXV := Aside0.mk hx
      clear hx hcs
      go_wp2
      go_roundw
      case rel =>
        have hst := own_store HO.out (i : Int) x
        rw [Int.toNat_natCast] at hst
        refine ⟨i + 1, _, by omega, by omega, by go_num, ⟨by rw [List.length_set, HX.out]⟩, ⟨?_⟩, ⟨hst.1⟩, ⟨Below.grown HB.out hst.2 HB.out.size (fun k hk => by injection hk with hk; omega)⟩⟩
        intro j hj
        by_cases e : j = i
        · subst e
          rw [if_pos (by omega), HXV.out, List.getD_eq_getElem?_getD, List.getElem?_set_self (by rw [HX.out]; exact hlt)]; rfl
        · have := HJ.out j hj
          rw [List.getD_eq_getElem?_getD] at this ⊢
          rw [List.getElem?_set_ne (fun h => e h.symm), this]
          by_cases h2 : j < i
          · rw [if_pos h2, if_pos (by omega)]
          · rw [if_neg h2, if_neg (by omega)]
      case measure => simp [intOf]; omega
    · have HU : Aside0 (xs = sizedL 16 l0) := ⟨by
        refine row_ext (by rw [HX.out, sizedL_length]) (fun j hj => ?_)
        rw [HX.out] at hj
        rw [HJ.out j hj, sizedL_getD _ _ _ hj]
        split
        · rfl
        · rw [List.getD_eq_getElem?_getD, List.getElem?_eq_none (by rw [HL.out]; omega)]; rfl⟩
      have hex : i = 16 ∨ i < 16 ∧ m = i := by omega
      clear hlt
      rcases hex with rfl | ⟨h1, rfl⟩
      all_goals
        go_wp2
        go_ret
        refine ⟨_, rfl, ?_, HB.out⟩
        rw [← HU.out]
        exact Kd.R_of_own (enc := Value.int .i64) (h1 := fun _ => rfl) (ok := fun _ => True) (xs := xs) (by rw [HX.out]; exact HO.out) (fun _ _ => trivial)
set_option maxHeartbeats 8000000 in
theorem sized_4 (A0 : Option Addr) (m c0 : Nat) (l0 : List Int) (a1 : Int) (w : World) (hl : l0.length = m) (hr0 : Kd.C (Kd.int .i64) w A0 m l0) (hm : m ≤ 4000000000000000000) (he : a1 % 6 = 4) :
    Calls Tryd.prog 25 #[.slice A0 m c0, .int .i64 a1] w fun e w' => ∃ v0_ : Value, e = .returned v0_ ∧ Kd.R (Kd.int .i64) 3 w' w.heap.size (fun _ => True) v0_ (sizedL 32 l0) ∧ Below w.heap.size w w' := by
  obtain ⟨q1, q2, q3⟩ := size_rem he
  have hmk := print_make 22 3 .i64 8 Tryd.underlying22 turn_info (by decide) 32 (by omega)
  simp only [Int.cast_ofNat_Int] at hmk
  have HC := Aside0.mk hr0
  have HL := Aside0.mk hl
  clear hl hr0 he
  go_enter Tryd.func25, Tryd.ntmps25
  go_wp2
  go_loopw [6] (fun v wr => ∃ (i : Nat) (xs : List Int), i ≤ 32 ∧ i ≤ m ∧ v = .int .i64 (i : Int) ∧ Aside0 (xs.length = 32) ∧ Aside0 (∀ j, j < 32 → xs.getD j 0 = if j < i then l0.getD j 0 else 0) ∧ Aside0 (wr.ownsRow w.heap.size 3 1 (.slice (some ⟨w.heap.size, 0, none⟩) 32 32) 32 (nums .i64 xs)) ∧ Aside0 (Below w.heap.size w wr)) (fun v _ => 32 - (intOf v).toNat)
  case atStart =>
    refine ⟨0, List.replicate 32 0, by omega, by omega, rfl, ⟨by simp⟩, ⟨fun j hj => by rw [if_neg (by omega), List.getD_eq_getElem?_getD, List.getElem?_replicate, if_pos hj]; rfl⟩, ⟨?_⟩, ⟨by repeat (first | exact Below.refl _ _ | apply below_alloc | apply pw_below_drewN)⟩⟩
    exact own_made w w.heap.size 3 .i64 32 (Nat.le_refl _) (by omega)
  case round =>
    obtain ⟨i, xs, hi, him, rfl, HX, HJ, HO, HB⟩ := hrel
    by_cases hlt : i < 32 ∧ i < m
    · obtain ⟨hlt, hltm⟩ := hlt
      obtain ⟨ad, rfl, hcs⟩ := sp_ad HC.out (by omega)
      have hcell := sp_cell (Kd.C_below HC.out HB.out) i hltm
      obtain ⟨⟨y, hy⟩, hfr⟩ := own_free HO.out i hlt
      obtain ⟨x, hx⟩ : ∃ x, l0.getD i 0 = x := ⟨_, rfl⟩
      rw [hx] at hcell
      have HXV := Aside0.mk hx
      clear hx hcs
      go_wp2
      go_roundw
      case rel =>
        have hst := own_store HO.out (i : Int) x
        rw [Int.toNat_natCast] at hst
        refine ⟨i + 1, _, by omega, by omega, by go_num, ⟨by rw [List.length_set, HX.out]⟩, ⟨?_⟩, ⟨hst.1⟩, ⟨Below.grown HB.out hst.2 HB.out.size (fun k hk => by injection hk with hk; omega)⟩⟩
        intro j hj
        by_cases e : j = i
        · subst e
          rw [if_pos (by omega), HXV.out, List.getD_eq_getElem?_getD, List.getElem?_set_self (by rw [HX.out]; exact hlt)]; rfl
        · have := HJ.out j hj
          rw [List.getD_eq_getElem?_getD] at this ⊢
          rw [List.getElem?_set_ne (fun h => e h.symm), this]
          by_cases h2 : j < i
          · rw [if_pos h2, if_pos (by omega)]
          · rw [if_neg h2, if_neg (by omega)]
      case measure => simp [intOf]; omega
    · have HU : Aside0 (xs = sizedL 32 l0) := ⟨by
        refine row_ext (by rw [HX.out, sizedL_length]) (fun j hj => ?_)
        rw [HX.out] at hj
        rw [HJ.out j hj, sizedL_getD _ _ _ hj]
        split
        · rfl
        · rw [List.getD_eq_getElem?_getD, List.getElem?_eq_none (by rw [HL.out]; omega)]; rfl⟩
      have hex : i = 32 ∨ i < 32 ∧ m = i := by omega
      clear hlt
      rcases hex with rfl | ⟨h1, rfl⟩
      all_goals
        go_wp2
        go_ret
        refine ⟨_, rfl, ?_, HB.out⟩
        rw [← HU.out]
        exact Kd.R_of_own (enc := Value.int .i64) (h1 := fun _ => rfl) (ok := fun _ => True) (xs := xs) (by rw [HX.out]; exact HO.out) (fun _ _ => trivial)
set_option maxHeartbeats 8000000 in
theorem sized_5 (A0 : Option Addr) (m c0 : Nat) (l0 : List Int) (a1 : Int) (w : World) (hl : l0.length = m) (hr0 : Kd.C (Kd.int .i64) w A0 m l0) (hm : m ≤ 4000000000000000000) (he : a1 % 6 = 5) :
    Calls Tryd.prog 25 #[.slice A0 m c0, .int .i64 a1] w fun e w' => ∃ v0_ : Value, e = .returned v0_ ∧ Kd.R (Kd.int .i64) 3 w' w.heap.size (fun _ => True) v0_ (sizedL 64 l0) ∧ Below w.heap.size w w' := by
  obtain ⟨q1, q2, q3⟩ := size_rem he
  have hmk := print_make 22 3 .i64 8 Tryd.underlying22 turn_info (by decide) 64 (by omega)
  simp only [Int.cast_ofNat_Int] at hmk
  have HC := Aside0.mk hr0
  have HL := Aside0.mk hl
  clear hl hr0 he
  go_enter Tryd.func25, Tryd.ntmps25
  go_wp2
  go_loopw [6] (fun v wr => ∃ (i : Nat) (xs : List Int), i ≤ 64 ∧ i ≤ m ∧ v = .int .i64 (i : Int) ∧ Aside0 (xs.length = 64) ∧ Aside0 (∀ j, j < 64 → xs.getD j 0 = if j < i then l0.getD j 0 else 0) ∧ Aside0 (wr.ownsRow w.heap.size 3 1 (.slice (some ⟨w.heap.size, 0, none⟩) 64 64) 64 (nums .i64 xs)) ∧ Aside0 (Below w.heap.size w wr)) (fun v _ => 64 - (intOf v).toNat)
  case atStart =>
    refine ⟨0, List.replicate 64 0, by omega, by omega, rfl, ⟨by simp⟩, ⟨fun j hj => by rw [if_neg (by omega), List.getD_eq_getElem?_getD, List.getElem?_replicate, if_pos hj]; rfl⟩, ⟨?_⟩, ⟨by repeat (first | exact Below.refl _ _ | apply below_alloc | apply pw_below_drewN)⟩⟩
    exact own_made w w.heap.size 3 .i64 64 (Nat.le_refl _) (by omega)
  case round =>
    obtain ⟨i, xs, hi, him, rfl, HX, HJ, HO, HB⟩ := hrel
    by_cases hlt : i < 64 ∧ i < m
    · obtain ⟨hlt, hltm⟩ := hlt
      obtain ⟨ad, rfl, hcs⟩ := sp_ad HC.out (by omega)
      have hcell := sp_cell (Kd.C_below HC.out HB.out) i hltm
      obtain ⟨⟨y, hy⟩, hfr⟩ := own_free HO.out i hlt
      obtain ⟨x, hx⟩ : ∃ x, l0.getD i 0 = x := ⟨_, rfl⟩
      rw [hx] at hcell
      have HXV := Aside0.mk hx
      clear hx hcs
      go_wp2
      go_roundw
      case rel =>
        have hst := own_store HO.out (i : Int) x
        rw [Int.toNat_natCast] at hst
        refine ⟨i + 1, _, by omega, by omega, by go_num, ⟨by rw [List.length_set, HX.out]⟩, ⟨?_⟩, ⟨hst.1⟩, ⟨Below.grown HB.out hst.2 HB.out.size (fun k hk => by injection hk with hk; omega)⟩⟩
        intro j hj
        by_cases e : j = i
        · subst e
          rw [if_pos (by omega), HXV.out, List.getD_eq_getElem?_getD, List.getElem?_set_self (by rw [HX.out]; exact hlt)]; rfl
        · have := HJ.out j hj
          rw [List.getD_eq_getElem?_getD] at this ⊢
          rw [List.getElem?_set_ne (fun h => e h.symm), this]
          by_cases h2 : j < i
          · rw [if_pos h2, if_pos (by omega)]
          · rw [if_neg h2, if_neg (by omega)]
      case measure => simp [intOf]; omega
    · have HU : Aside0 (xs = sizedL 64 l0) := ⟨by
        refine row_ext (by rw [HX.out, sizedL_length]) (fun j hj => ?_)
        rw [HX.out] at hj
        rw [HJ.out j hj, sizedL_getD _ _ _ hj]
        split
        · rfl
        · rw [List.getD_eq_getElem?_getD, List.getElem?_eq_none (by rw [HL.out]; omega)]; rfl⟩
      have hex : i = 64 ∨ i < 64 ∧ m = i := by omega
      clear hlt
      rcases hex with rfl | ⟨h1, rfl⟩
      all_goals
        go_wp2
        go_ret
        refine ⟨_, rfl, ?_, HB.out⟩
        rw [← HU.out]
        exact Kd.R_of_own (enc := Value.int .i64) (h1 := fun _ => rfl) (ok := fun _ => True) (xs := xs) (by rw [HX.out]; exact HO.out) (fun _ _ => trivial)
theorem earshotlaw10_sized.calls (A0 : Option Addr) (c0 : Nat) (l0 : List Int) (a1 : Int) (r : List Int) (w : World) (hr0 : Kd.C (Kd.int .i64) w A0 l0.length l0) (hc0 : l0.length ≤ c0) (h : earshotlaw10_sized.f l0 a1 = some r) :
    Calls Tryd.prog 25 #[.slice A0 l0.length c0, .int .i64 a1] w fun e w' => ∃ v0_ : Value, e = .returned v0_ ∧ Kd.R (Kd.int .i64) 3 w' w.heap.size (fun _ => True) v0_ r ∧ Below w.heap.size w w' := by
  unfold earshotlaw10_sized.f at h
  split at h
  case isFalse => cases h
  rename_i hz
  obtain rfl := Option.some.inj h
  simp only [decide_eq_true_eq] at hz
  have m0 := Int.emod_nonneg a1 (show (6 : Int) ≠ 0 by decide)
  have m1 := Int.emod_lt_of_pos a1 (show (0 : Int) < 6 by decide)
  have hc : a1 % 6 = 0 ∨ a1 % 6 = 1 ∨ a1 % 6 = 2 ∨ a1 % 6 = 3 ∨ a1 % 6 = 4 ∨ a1 % 6 = 5 := by omega
  rcases hc with he | he | he | he | he | he
  · have hs : sizeOf_ a1 = 2 := by unfold sizeOf_; rw [he]; rfl
    rw [hs]
    exact sized_0 A0 _ c0 l0 a1 w rfl hr0 hz he
  · have hs : sizeOf_ a1 = 4 := by unfold sizeOf_; rw [he]; rfl
    rw [hs]
    exact sized_1 A0 _ c0 l0 a1 w rfl hr0 hz he
  · have hs : sizeOf_ a1 = 8 := by unfold sizeOf_; rw [he]; rfl
    rw [hs]
    exact sized_2 A0 _ c0 l0 a1 w rfl hr0 hz he
  · have hs : sizeOf_ a1 = 16 := by unfold sizeOf_; rw [he]; rfl
    rw [hs]
    exact sized_3 A0 _ c0 l0 a1 w rfl hr0 hz he
  · have hs : sizeOf_ a1 = 32 := by unfold sizeOf_; rw [he]; rfl
    rw [hs]
    exact sized_4 A0 _ c0 l0 a1 w rfl hr0 hz he
  · have hs : sizeOf_ a1 = 64 := by unfold sizeOf_; rw [he]; rfl
    rw [hs]
    exact sized_5 A0 _ c0 l0 a1 w rfl hr0 hz he

end Go.Proofs.YtphmfecabbellaaDoor.PFftBack
