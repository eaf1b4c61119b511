-- Written by a program of this work (wip/tools) for this claim; Lean checks it.
import Derived.Test.YtphmfecabbellaaDoorPFftDirectx0
import Derived.Test.YtphmfecabbellaaDoorPFftDirectx1
namespace Go.Proofs.YtphmfecabbellaaDoor.PFftDirect
open Go.RowKit Go.Proofs.YtphmfecabbellaaDoorW.PrintWords Go.Proofs.YtphmfecabbellaaDoorW.PrintLast Go.Proofs.YtphmfecabbellaaDoorW.PrintMore
attribute [local go_sem] max2_int min2_int max_two min_two max_three min_three max_four min_four   -- for this text's walks alone
set_option linter.unusedVariables false
set_option linter.unusedSimpArgs false

/-! ### earshotlaw10_sized: function 25 -/



def sizedL (n : Nat) (l : List Int) : List Int := (List.range n).map fun i => l.getD i 0
theorem sizedL_length (n : Nat) (l : List Int) : (sizedL n l).length = n := by simp [sizedL]
theorem sizedL_getD (n : Nat) (l : List Int) (i : Nat) (hi : i < n) : (sizedL n l).getD i 0 = l.getD i 0 := getD_map_range _ _ _ hi
def sizeOf_ (s : Int) : Nat := 2 * 2 ^ (s % 6).toNat
theorem size_rem {s e : Int} (h : s % 6 = e) : Int.tmod (IntKind.i64.wrap (Int.tmod s 6 + 6)) 6 = e ∧ Int.tmod (wrap64 (Int.tmod s 6 + 6)) 6 = e ∧ Int.tmod (Int.tmod s 6 + 6) 6 = e := by
  have a := Int.lt_tmod_of_pos s (show (0 : Int) < 6 by decide)
  have b := Int.tmod_lt_of_pos s (show (0 : Int) < 6 by decide)
  have c := Int.tmod_eq_emod (a := s) (b := 6)
  have k : IntKind.i64.wrap (Int.tmod s 6 + 6) = Int.tmod s 6 + 6 := by rw [IntKind.wrap_i64]; omega
  have k2 : wrap64 (Int.tmod s 6 + 6) = Int.tmod s 6 + 6 := by unfold wrap64; omega
  have d : Int.tmod (Int.tmod s 6 + 6) 6 = e := by
    rw [Int.tmod_eq_emod_of_nonneg (by omega)]
    split at c <;> omega
  exact ⟨by rw [k]; exact d, by rw [k2]; exact d, d⟩
def earshotlaw10_sized.f (l0 : List Int) (a1 : Int) : Option (List Int) := if decide (l0.length ≤ 4000000000000000000) then some (sizedL (sizeOf_ a1) l0) else none
set_option maxHeartbeats 8000000 in
theorem sized_0 (A0 : Option Addr) (m c0 : Nat) (l0 : List Int) (a1 : Int) (w : World) (hl : l0.length = m) (hr0 : Kd.C (Kd.int .i64) w A0 m l0) (hm : m ≤ 4000000000000000000) (he : a1 % 6 = 0) :
    Calls Tryd.prog 25 #[.slice A0 m c0, .int .i64 a1] w fun e w' => ∃ v0_ : Value, e = .returned v0_ ∧ Kd.R (Kd.int .i64) 3 w' w.heap.size (fun _ => True) v0_ (sizedL 2 l0) ∧ Below w.heap.size w w' := by
  obtain ⟨q1, q2, q3⟩ := size_rem he
  have hmk := print_make 22 3 .i64 8 Tryd.underlying22 turn_info (by decide) 2 (by omega)
  simp only [Int.cast_ofNat_Int] at hmk
  have HC := Aside0.mk hr0
  have HL := Aside0.mk hl
  clear hl hr0 he
  go_enter Tryd.func25, Tryd.ntmps25
  go_wp2
  go_loopw [6] (fun v wr => ∃ (i : Nat) (xs : List Int), i ≤ 2 ∧ i ≤ m ∧ v = .int .i64 (i : Int) ∧ Aside0 (xs.length = 2) ∧ Aside0 (∀ j, j < 2 → xs.getD j 0 = if j < i then l0.getD j 0 else 0) ∧ Aside0 (wr.ownsRow w.heap.size 3 1 (.slice (some ⟨w.heap.size, 0, none⟩) 2 2) 2 (nums .i64 xs)) ∧ Aside0 (Below w.heap.size w wr)) (fun v _ => 2 - (intOf v).toNat)
  case atStart =>
    refine ⟨0, List.replicate 2 0, by omega, by omega, rfl, ⟨by simp⟩, ⟨fun j hj => by rw [if_neg (by omega), List.getD_eq_getElem?_getD, List.getElem?_replicate, if_pos hj]; rfl⟩, ⟨?_⟩, ⟨by repeat (first | exact Below.refl _ _ | apply below_alloc | apply pw_below_drewN)⟩⟩
    exact own_made w w.heap.size 3 .i64 2 (Nat.le_refl _) (by omega)
  case round =>
    obtain ⟨i, xs, hi, him, rfl, HX, HJ, HO, HB⟩ := hrel
    by_cases hlt : i < 2 ∧ i < m
    · obtain ⟨hlt, hltm⟩ := hlt
      obtain ⟨ad, rfl, hcs⟩ := sp_ad HC.out (by omega)
      have hcell := sp_cell (Kd.C_below HC.out HB.out) i hltm
      obtain ⟨⟨y, hy⟩, hfr⟩ := own_free HO.out i hlt
      obtain ⟨x, hx⟩ : ∃ x, l0.getD i 0 = x := ⟨_, rfl⟩
      rw [hx] at hcell
      have HXV := Aside0.mk hx
      clear hx hcs
      go_wp2
      go_roundw
      case rel =>
        have hst := own_store HO.out (i : Int) x
        rw [Int.toNat_natCast] at hst
        refine ⟨i + 1, _, by omega, by omega, by go_num, ⟨by rw [List.length_set, HX.out]⟩, ⟨?_⟩, ⟨hst.1⟩, ⟨Below.grown HB.out hst.2 HB.out.size (fun k hk => by injection hk with hk; omega)⟩⟩
        intro j hj
        by_cases e : j = i
        · subst e
          rw [if_pos (by omega), HXV.out, List.getD_eq_getElem?_getD, List.getElem?_set_self (by rw [HX.out]; exact hlt)]; rfl
        · have := HJ.out j hj
          rw [List.getD_eq_getElem?_getD] at this ⊢
          rw [List.getElem?_set_ne (fun h => e h.symm), this]
          by_cases h2 : j < i
          · rw [if_pos h2, if_pos (by omega)]
          · rw [if_neg h2, if_neg (by omega)]
      case measure => simp [intOf]; omega
    · have HU : Aside0 (xs = sizedL 2 l0) := ⟨by
        refine row_ext (by rw [HX.out, sizedL_length]) (fun j hj => ?_)
        rw [HX.out] at hj
        rw [HJ.out j hj, sizedL_getD _ _ _ hj]
        split
        · rfl
        · rw [List.getD_eq_getElem?_getD, List.getElem?_eq_none (by rw [HL.out]; omega)]; rfl⟩
      have hex : i = 2 ∨ i < 2 ∧ m = i := by omega
      clear hlt
      rcases hex with rfl | ⟨h1, rfl⟩
      all_goals
        go_wp2
        go_ret
        refine ⟨_, rfl, ?_, HB.out⟩
        rw [← HU.out]
        exact Kd.R_of_own (enc := Value.int .i64) (h1 := fun _ => rfl) (ok := fun _ => True) (xs := xs) (by rw [HX.out]; exact HO.out) (fun _ _ => trivial)
set_option maxHeartbeats 8000000 in
theorem sized_1 (A0 : Option Addr) (m c0 : Nat) (l0 : List Int) (a1 : Int) (w : World) (hl : l0.length = m) (hr0 : Kd.C (Kd.int .i64) w A0 m l0) (hm : m ≤ 4000000000000000000) (he : a1 % 6 = 1) :
    Calls Tryd.prog 25 #[.slice A0 m c0, .int .i64 a1] w fun e w' => ∃ v0_ : Value, e = .returned v0_ ∧ Kd.R (Kd.int .i64) 3 w' w.heap.size (fun _ => True) v0_ (sizedL 4 l0) ∧ Below w.heap.size w w' := by
  obtain ⟨q1, q2, q3⟩ := size_rem he
  have hmk := print_make 22 3 .i64 8 Tryd.underlying22 turn_info (by decide) 4 (by omega)
  simp only [Int.cast_ofNat_Int] at hmk
  have HC := Aside0.mk hr0
  have HL := Aside0.mk hl
  clear hl hr0 he
  go_enter Tryd.func25, Tryd.ntmps25
  go_wp2
  go_loopw [6] (fun v wr => ∃ (i : Nat) (xs : List Int), i ≤ 4 ∧ i ≤ m ∧ v = .int .i64 (i : Int) ∧ Aside0 (xs.length = 4) ∧ Aside0 (∀ j, j < 4 → xs.getD j 0 = if j < i then l0.getD j 0 else 0) ∧ Aside0 (wr.ownsRow w.heap.size 3 1 (.slice (some ⟨w.heap.size, 0, none⟩) 4 4) 4 (nums .i64 xs)) ∧ Aside0 (Below w.heap.size w wr)) (fun v _ => 4 - (intOf v).toNat)
  case atStart =>
    refine ⟨0, List.replicate 4 0, by omega, by omega, rfl, ⟨by simp⟩, ⟨fun j hj => by rw [if_neg (by omega), List.getD_eq_getElem?_getD, List.getElem?_replicate, if_pos hj]; rfl⟩, ⟨?_⟩, ⟨by repeat (first | exact Below.refl _ _ | apply below_alloc | apply pw_below_drewN)⟩⟩
    exact own_made w w.heap.size 3 .i64 4 (Nat.le_refl _) (by omega)
  case round =>
    obtain ⟨i, xs, hi, him, rfl, HX, HJ, HO, HB⟩ := hrel
    by_cases hlt : i < 4 ∧ i < m
    · obtain ⟨hlt, hltm⟩ := hlt
      obtain ⟨ad, rfl, hcs⟩ := sp_ad HC.out (by omega)
      have hcell := sp_cell (Kd.C_below HC.out HB.out) i hltm
      obtain ⟨⟨y, hy⟩, hfr⟩ := own_free HO.out i hlt
      obtain ⟨x, hx⟩ : ∃ x, l0.getD i 0 = x := ⟨_, rfl⟩
      rw [hx] at hcell
      have HXV := Aside0.mk hx
      clear hx hcs
      go_wp2
      go_roundw
      case rel =>
        have hst := own_store HO.out (i : Int) x
        rw [Int.toNat_natCast] at hst
        refine ⟨i + 1, _, by omega, by omega, by go_num, ⟨by rw [List.length_set, HX.out]⟩, ⟨?_⟩, ⟨hst.1⟩, ⟨Below.grown HB.out hst.2 HB.out.size (fun k hk => by injection hk with hk; omega)⟩⟩
        intro j hj
        by_cases e : j = i
        · subst e
          rw [if_pos (by omega), HXV.out, List.getD_eq_getElem?_getD, List.getElem?_set_self (by rw [HX.out]; exact hlt)]; rfl
        · have := HJ.out j hj
          rw [List.getD_eq_getElem?_getD] at this ⊢
          rw [List.getElem?_set_ne (fun h => e h.symm), this]
          by_cases h2 : j < i
          · rw [if_pos h2, if_pos (by omega)]
          · rw [if_neg h2, if_neg (by omega)]
      case measure => simp [intOf]; omega
    · have HU : Aside0 (xs = sizedL 4 l0) := ⟨by
        refine row_ext (by rw [HX.out, sizedL_length]) (fun j hj => ?_)
        rw [HX.out] at hj
        rw [HJ.out j hj, sizedL_getD _ _ _ hj]
        split
        · rfl
        · rw [List.getD_eq_getElem?_getD, List.getElem?_eq_none (by rw [HL.out]; omega)]; rfl⟩
      have hex : i = 4 ∨ i < 4 ∧ m = i := by omega
      clear hlt
      rcases hex with rfl | ⟨h1, rfl⟩
      all_goals
        go_wp2
        go_ret
        refine ⟨_, rfl, ?_, HB.out⟩
        rw [← HU.out]
        exact Kd.R_of_own (enc := Value.int .i64) (h1 := fun _ => rfl) (ok := fun _ => True) (xs := xs) (by rw [HX.out]; exact HO.out) (fun _ _ => trivial)
set_option maxHeartbeats 8000000 in
theorem sized_2 (A0 : Option Addr) (m c0 : Nat) (l0 : List Int) (a1 : Int) (w : World) (hl : l0.length = m) (hr0 : Kd.C (Kd.int .i64) w A0 m l0) (hm : m ≤ 4000000000000000000) (he : a1 % 6 = 2) :
    Calls Tryd.prog 25 #[.slice A0 m c0, .int .i64 a1] w fun e w' => ∃ v0_ : Value, e = .returned v0_ ∧ Kd.R (Kd.int .i64) 3 w' w.heap.size (fun _ => True) v0_ (sizedL 8 l0) ∧ Below w.heap.size w w' := by
  obtain ⟨q1, q2, q3⟩ := size_rem he
  have hmk := print_make 22 3 .i64 8 Tryd.underlying22 turn_info (by decide) 8 (by omega)
  simp only [Int.cast_ofNat_Int] at hmk
  have HC := Aside0.mk hr0
  have HL := Aside0.mk hl
  clear hl hr0 he
  go_enter Tryd.func25, Tryd.ntmps25
  go_wp2
  go_loopw [6] (fun v wr => ∃ (i : Nat) (xs : List Int), i ≤ 8 ∧ i ≤ m ∧ v = .int .i64 (i : Int) ∧ Aside0 (xs.length = 8) ∧ Aside0 (∀ j, j < 8 → xs.getD j 0 = if j < i then l0.getD j 0 else 0) ∧ Aside0 (wr.ownsRow w.heap.size 3 1 (.slice (some ⟨w.heap.size, 0, none⟩) 8 8) 8 (nums .i64 xs)) ∧ Aside0 (Below w.heap.size w wr)) (fun v _ => 8 - (intOf v).toNat)
  case atStart =>
    refine ⟨0, List.replicate 8 0, by omega, by omega, rfl, ⟨by simp⟩, ⟨fun j hj => by rw [if_neg (by omega), List.getD_eq_getElem?_getD, List.getElem?_replicate, if_pos hj]; rfl⟩, ⟨?_⟩, ⟨by repeat (first | exact Below.refl _ _ | apply below_alloc | apply pw_below_drewN)⟩⟩
    exact own_made w w.heap.size 3 .i64 8 (Nat.le_refl _) (by omega)
  case round =>
    obtain ⟨i, xs, hi, him, rfl, HX, HJ, HO, HB⟩ := hrel
    by_cases hlt : i < 8 ∧ i < m
    · obtain ⟨hlt, hltm⟩ := hlt
      obtain ⟨ad, rfl, hcs⟩ := sp_ad HC.out (by omega)
      have hcell := sp_cell (Kd.C_below HC.out HB.out) i hltm
      obtain ⟨⟨y, hy⟩, hfr⟩ := own_free HO.out i hlt
      obtain ⟨x, hx⟩ : ∃ x, l0.getD i 0 = x := ⟨_, rfl⟩
      rw [hx] at hcell
      have HXV := Aside0.mk hx
      clear hx hcs
      go_wp2
      go_roundw
      case rel =>
        have hst := own_store HO.out (i : Int) x
        rw [Int.toNat_natCast] at hst
        refine ⟨i + 1, _, by omega, by omega, by go_num, ⟨by rw [List.length_set, HX.out]⟩, ⟨?_⟩, ⟨hst.1⟩, ⟨Below.grown HB.out hst.2 HB.out.size (fun k hk => by injection hk with hk; omega)⟩⟩
        intro j hj
        by_cases e : j = i
        · subst e
          rw [if_pos (by omega), HXV.out, List.getD_eq_getElem?_getD, List.getElem?_set_self (by rw [HX.out]; exact hlt)]; rfl
        · have := HJ.out j hj
          rw [List.getD_eq_getElem?_getD] at this ⊢
          rw [List.getElem?_set_ne (fun h => e h.symm), this]
          by_cases h2 : j < i
          · rw [if_pos h2, if_pos (by omega)]
          · rw [if_neg h2, if_neg (by omega)]
      case measure => simp [intOf]; omega
    · have HU : Aside0 (xs = sizedL 8 l0) := ⟨by
        refine row_ext (by rw [HX.out, sizedL_length]) (fun j hj => ?_)
        rw [HX.out] at hj
        rw [HJ.out j hj, sizedL_getD _ _ _ hj]
        split
        · rfl
        · rw [List.getD_eq_getElem?_getD, List.getElem?_eq_none (by rw [HL.out]; omega)]; rfl⟩
      have hex : i = 8 ∨ i < 8 ∧ m = i := by omega
      clear hlt
      rcases hex with rfl | ⟨h1, rfl⟩
      all_goals
        go_wp2
        go_ret
        refine ⟨_, rfl, ?_, HB.out⟩
        rw [← HU.out]
        exact Kd.R_of_own (enc := Value.int .i64) (h1 := fun _ => rfl) (ok := fun _ => True) (xs := xs) (by rw [HX.out]; exact HO.out) (fun _ _ => trivial)
set_option maxHeartbeats 8000000 in
theorem sized_3 (A0 : Option Addr) (m c0 : Nat) (l0 : List Int) (a1 : Int) (w : World) (hl : l0.length = m) (hr0 : Kd.C (Kd.int .i64) w A0 m l0) (hm : m ≤ 4000000000000000000) (he : a1 % 6 = 3) :
    Calls Tryd.prog 25 #[.slice A0 m c0, .int .i64 a1] w fun e w' => ∃ v0_ : Value, e = .returned v0_ ∧ Kd.R (Kd.int .i64) 3 w' w.heap.size (fun _ => True) v0_ (sizedL 16 l0) ∧ Below w.heap.size w w' := by
  obtain ⟨q1, q2, q3⟩ := size_rem he
  have hmk := print_make 22 3 .i64 8 Tryd.underlying22 turn_info (by decide) 16 (by omega)
  simp only [Int.cast_ofNat_Int] at hmk
  have HC := Aside0.mk hr0
  have HL := Aside0.mk hl
  clear hl hr0 he
  go_enter Tryd.func25, Tryd.ntmps25
  go_wp2
  go_loopw [6] (fun v wr => ∃ (i : Nat) (xs : List Int), i ≤ 16 ∧ i ≤ m ∧ v = .int .i64 (i : Int) ∧ Aside0 (xs.length = 16) ∧ Aside0 (∀ j, j < 16 → xs.getD j 0 = if j < i then l0.getD j 0 else 0) ∧ Aside0 (wr.ownsRow w.heap.size 3 1 (.slice (some ⟨w.heap.size, 0, none⟩) 16 16) 16 (nums .i64 xs)) ∧ Aside0 (Below w.heap.size w wr)) (fun v _ => 16 - (intOf v).toNat)
  case atStart =>
    refine ⟨0, List.replicate 16 0, by omega, by omega, rfl, ⟨by simp⟩, ⟨fun j hj => by rw [if_neg (by omega), List.getD_eq_getElem?_getD, List.getElem?_replicate, if_pos hj]; rfl⟩, ⟨?_⟩, ⟨by repeat (first | exact Below.refl _ _ | apply below_alloc | apply pw_below_drewN)⟩⟩
    exact own_made w w.heap.size 3 .i64 16 (Nat.le_refl _) (by omega)
  case round =>
    obtain ⟨i, xs, hi, him, rfl, HX, HJ, HO, HB⟩ := hrel
    by_cases hlt : i < 16 ∧ i < m
    · obtain ⟨hlt, hltm⟩ := hlt
      obtain ⟨ad, rfl, hcs⟩ := sp_ad HC.out (by omega)
      have hcell := sp_cell (Kd.C_below HC.out HB.out) i hltm
      obtain ⟨⟨y, hy⟩, hfr⟩ := own_free HO.out i hlt
      obtain ⟨x, hx⟩ : ∃ x, l0.getD i 0 = x := ⟨_, rfl⟩
      rw [hx] at hcell
      have HXV := Aside0.mk hx
      clear hx hcs
      go_wp2
      go_roundw
      case rel =>
        have hst := own_store HO.out (i : Int) x
        rw [Int.toNat_natCast] at hst
        refine ⟨i + 1, _, by omega, by omega, by go_num, ⟨by rw [List.length_set, HX.out]⟩, ⟨?_⟩, ⟨hst.1⟩, ⟨Below.grown HB.out hst.2 HB.out.size (fun k hk => by injection hk with hk; omega)⟩⟩
        intro j hj
        by_cases e : j = i
        · subst e
          rw [if_pos (by omega), HXV.out, List.getD_eq_getElem?_getD, List.getElem?_set_self (by rw [HX.out]; exact hlt)]; rfl
        · have := HJ.out j hj
          rw [List.getD_eq_getElem?_getD] at this ⊢
          rw [List.getElem?_set_ne (fun h => e h.symm), this]
          by_cases h2 : j < i
          · rw [if_pos h2, if_pos (by omega)]
          · rw [if_neg h2, if_neg (by omega)]
      case measure => simp [intOf]; omega
    · have HU : Aside0 (xs = sizedL 16 l0) := ⟨by
        refine row_ext (by rw [HX.out, sizedL_length]) (fun j hj => ?_)
        rw [HX.out] at hj
        rw [HJ.out j hj, sizedL_getD _ _ _ hj]
        split
        · rfl
        · rw [List.getD_eq_getElem?_getD, List.getElem?_eq_none (by rw [HL.out]; omega)]; rfl⟩
      have hex : i = 16 ∨ i < 16 ∧ m = i := by omega
      clear hlt
      rcases hex with rfl | ⟨h1, rfl⟩
      all_goals
        go_wp2
        go_ret
        refine ⟨_, rfl, ?_, HB.out⟩
        rw [← HU.out]
        exact Kd.R_of_own (enc := Value.int .i64) (h1 := fun _ => rfl) (ok := fun _ => True) (xs := xs) (by rw [HX.out]; exact HO.out) (fun _ _ => trivial)
set_option maxHeartbeats 8000000 in
theorem sized_4 (A0 : Option Addr) (m c0 : Nat) (l0 : List Int) (a1 : Int) (w : World) (hl : l0.length = m) (hr0 : Kd.C (Kd.int .i64) w A0 m l0) (hm : m ≤ 4000000000000000000) (he : a1 % 6 = 4) :
    Calls Tryd.prog 25 #[.slice A0 m c0, .int .i64 a1] w fun e w' => ∃ v0_ : Value, e = .returned v0_ ∧ Kd.R (Kd.int .i64) 3 w' w.heap.size (fun _ => True) v0_ (sizedL 32 l0) ∧ Below w.heap.size w w' := by
  obtain ⟨q1, q2, q3⟩ := size_rem he
  have hmk := print_make 22 3 .i64 8 Tryd.underlying22 turn_info (by decide) 32 (by omega)
  simp only [Int.cast_ofNat_Int] at hmk
  have HC := Aside0.mk hr0
  have HL := Aside0.mk hl
  clear hl hr0 he
  go_enter Tryd.func25, Tryd.ntmps25
  go_wp2
  go_loopw [6] (fun v wr => ∃ (i : Nat) (xs : List Int), i ≤ 32 ∧ i ≤ m ∧ v = .int .i64 (i : Int) ∧ Aside0 (xs.length = 32) ∧ Aside0 (∀ j, j < 32 → xs.getD j 0 = if j < i then l0.getD j 0 else 0) ∧ Aside0 (wr.ownsRow w.heap.size 3 1 (.slice (some ⟨w.heap.size, 0, none⟩) 32 32) 32 (nums .i64 xs)) ∧ Aside0 (Below w.heap.size w wr)) (fun v _ => 32 - (intOf v).toNat)
  case atStart =>
    refine ⟨0, List.replicate 32 0, by omega, by omega, rfl, ⟨by simp⟩, ⟨fun j hj => by rw [if_neg (by omega), List.getD_eq_getElem?_getD, List.getElem?_replicate, if_pos hj]; rfl⟩, ⟨?_⟩, ⟨by repeat (first | exact Below.refl _ _ | apply below_alloc | apply pw_below_drewN)⟩⟩
    exact own_made w w.heap.size 3 .i64 32 (Nat.le_refl _) (by omega)
  case round =>
    obtain ⟨i, xs, hi, him, rfl, HX, HJ, HO, HB⟩ := hrel
    by_cases hlt : i < 32 ∧ i < m
    · obtain ⟨hlt, hltm⟩ := hlt
      obtain ⟨ad, rfl, hcs⟩ := sp_ad HC.out (by omega)
      have hcell := sp_cell (Kd.C_below HC.out HB.out) i hltm
      obtain ⟨⟨y, hy⟩, hfr⟩ := own_free HO.out i hlt
      obtain ⟨x, hx⟩ : ∃ x, l0.getD i 0 = x := ⟨_, rfl⟩
      rw [hx] at hcell
      have HXV := Aside0.mk hx
      clear hx hcs
      go_wp2
      go_roundw
      case rel =>
        have hst := own_store HO.out (i : Int) x
        rw [Int.toNat_natCast] at hst
        refine ⟨i + 1, _, by omega, by omega, by go_num, ⟨by rw [List.length_set, HX.out]⟩, ⟨?_⟩, ⟨hst.1⟩, ⟨Below.grown HB.out hst.2 HB.out.size (fun k hk => by injection hk with hk; omega)⟩⟩
        intro j hj
        by_cases e : j = i
        · subst e
          rw [if_pos (by omega), HXV.out, List.getD_eq_getElem?_getD, List.getElem?_set_self (by rw [HX.out]; exact hlt)]; rfl
        · have := HJ.out j hj
          rw [List.getD_eq_getElem?_getD] at this ⊢
          rw [List.getElem?_set_ne (fun h => e h.symm), this]
          by_cases h2 : j < i
          · rw [if_pos h2, if_pos (by omega)]
          · rw [if_neg h2, if_neg (by omega)]
      case measure => simp [intOf]; omega
    · have HU : Aside0 (xs = sizedL 32 l0) := ⟨by
        refine row_ext (by rw [HX.out, sizedL_length]) (fun j hj => ?_)
        rw [HX.out] at hj
        rw [HJ.out j hj, sizedL_getD _ _ _ hj]
        split
        · rfl
        · rw [List.getD_eq_getElem?_getD, List.getElem?_eq_none (by rw [HL.out]; omega)]; rfl⟩
      have hex : i = 32 ∨ i < 32 ∧ m = i := by omega
      clear hlt
      rcases hex with rfl | ⟨h1, rfl⟩
      all_goals
        go_wp2
        go_ret
        refine ⟨_, rfl, ?_, HB.out⟩
        rw [← HU.out]
        exact Kd.R_of_own (enc := Value.int .i64) (h1 := fun _ => rfl) (ok := fun _ => True) (xs := xs) (by rw [HX.out]; exact HO.out) (fun _ _ => trivial)
set_option maxHeartbeats 8000000 in
theorem sized_5 (A0 : Option Addr) (m c0 : Nat) (l0 : List Int) (a1 : Int) (w : World) (hl : l0.length = m) (hr0 : Kd.C (Kd.int .i64) w A0 m l0) (hm : m ≤ 4000000000000000000) (he : a1 % 6 = 5) :
    Calls Tryd.prog 25 #[.slice A0 m c0, .int .i64 a1] w fun e w' => ∃ v0_ : Value, e = .returned v0_ ∧ Kd.R (Kd.int .i64) 3 w' w.heap.size (fun _ => True) v0_ (sizedL 64 l0) ∧ Below w.heap.size w w' := by
  obtain ⟨q1, q2, q3⟩ := size_rem he
  have hmk := print_make 22 3 .i64 8 Tryd.underlying22 turn_info (by decide) 64 (by omega)
  simp only [Int.cast_ofNat_Int] at hmk
  have HC := Aside0.mk hr0
  have HL := Aside0.mk hl
  clear hl hr0 he
  go_enter Tryd.func25, Tryd.ntmps25
  go_wp2
  go_loopw [6] (fun v wr => ∃ (i : Nat) (xs : List Int), i ≤ 64 ∧ i ≤ m ∧ v = .int .i64 (i : Int) ∧ Aside0 (xs.length = 64) ∧ Aside0 (∀ j, j < 64 → xs.getD j 0 = if j < i then l0.getD j 0 else 0) ∧ Aside0 (wr.ownsRow w.heap.size 3 1 (.slice (some ⟨w.heap.size, 0, none⟩) 64 64) 64 (nums .i64 xs)) ∧ Aside0 (Below w.heap.size w wr)) (fun v _ => 64 - (intOf v).toNat)
  case atStart =>
    refine ⟨0, List.replicate 64 0, by omega, by omega, rfl, ⟨by simp⟩, ⟨fun j hj => by rw [if_neg (by omega), List.getD_eq_getElem?_getD, List.getElem?_replicate, if_pos hj]; rfl⟩, ⟨?_⟩, ⟨by repeat (first | exact Below.refl _ _ | apply below_alloc | apply pw_below_drewN)⟩⟩
    exact own_made w w.heap.size 3 .i64 64 (Nat.le_refl _) (by omega)
  case round =>
    obtain ⟨i, xs, hi, him, rfl, HX, HJ, HO, HB⟩ := hrel
    by_cases hlt : i < 64 ∧ i < m
    · obtain ⟨hlt, hltm⟩ := hlt
      obtain ⟨ad, rfl, hcs⟩ := sp_ad HC.out (by omega)
      have hcell := sp_cell (Kd.C_below HC.out HB.out) i hltm
      obtain ⟨⟨y, hy⟩, hfr⟩ := own_free HO.out i hlt
      obtain ⟨x, hx⟩ : ∃ x, l0.getD i 0 = x := ⟨_, rfl⟩
      rw [hx] at hcell
      have HXV := Aside0.mk hx
      clear hx hcs
      go_wp2
      go_roundw
      case rel =>
        have hst := own_store HO.out (i : Int) x
        rw [Int.toNat_natCast] at hst
        refine ⟨i + 1, _, by omega, by omega, by go_num, ⟨by rw [List.length_set, HX.out]⟩, ⟨?_⟩, ⟨hst.1⟩, ⟨Below.grown HB.out hst.2 HB.out.size (fun k hk => by injection hk with hk; omega)⟩⟩
        intro j hj
        by_cases e : j = i
        · subst e
          rw [if_pos (by omega), HXV.out, List.getD_eq_getElem?_getD, List.getElem?_set_self (by rw [HX.out]; exact hlt)]; rfl
        · have := HJ.out j hj
          rw [List.getD_eq_getElem?_getD] at this ⊢
          rw [List.getElem?_set_ne (fun h => e h.symm), this]
          by_cases h2 : j < i
          · rw [if_pos h2, if_pos (by omega)]
          · rw [if_neg h2, if_neg (by omega)]
      case measure => simp [intOf]; omega
    · have HU : Aside0 (xs = sizedL 64 l0) := ⟨by
        refine row_ext (by rw [HX.out, sizedL_length]) (fun j hj => ?_)
        rw [HX.out] at hj
        rw [HJ.out j hj, sizedL_getD _ _ _ hj]
        split
        · rfl
        · rw [List.getD_eq_getElem?_getD, List.getElem?_eq_none (by rw [HL.out]; omega)]; rfl⟩
      have hex : i = 64 ∨ i < 64 ∧ m = i := by omega
      clear hlt
      rcases hex with rfl | ⟨h1, rfl⟩
      all_goals
        go_wp2
        go_ret
        refine ⟨_, rfl, ?_, HB.out⟩
        rw [← HU.out]
        exact Kd.R_of_own (enc := Value.int .i64) (h1 := fun _ => rfl) (ok := fun _ => True) (xs := xs) (by rw [HX.out]; exact HO.out) (fun _ _ => trivial)
theorem earshotlaw10_sized.calls (A0 : Option Addr) (c0 : Nat) (l0 : List Int) (a1 : Int) (r : List Int) (w : World) (hr0 : Kd.C (Kd.int .i64) w A0 l0.length l0) (hc0 : l0.length ≤ c0) (h : earshotlaw10_sized.f l0 a1 = some r) :
    Calls Tryd.prog 25 #[.slice A0 l0.length c0, .int .i64 a1] w fun e w' => ∃ v0_ : Value, e = .returned v0_ ∧ Kd.R (Kd.int .i64) 3 w' w.heap.size (fun _ => True) v0_ r ∧ Below w.heap.size w w' := by
  unfold earshotlaw10_sized.f at h
  split at h
  case isFalse => cases h
  rename_i hz
  obtain rfl := Option.some.inj h
  simp only [decide_eq_true_eq] at hz
  have m0 := Int.emod_nonneg a1 (show (6 : Int) ≠ 0 by decide)
  have m1 := Int.emod_lt_of_pos a1 (show (0 : Int) < 6 by decide)
  have hc : a1 % 6 = 0 ∨ a1 % 6 = 1 ∨ a1 % 6 = 2 ∨ a1 % 6 = 3 ∨ a1 % 6 = 4 ∨ a1 % 6 = 5 := by omega
  rcases hc with he | he | he | he | he | he
  · have hs : sizeOf_ a1 = 2 := by unfold sizeOf_; rw [he]; rfl
    rw [hs]
    exact sized_0 A0 _ c0 l0 a1 w rfl hr0 hz he
  · have hs : sizeOf_ a1 = 4 := by unfold sizeOf_; rw [he]; rfl
    rw [hs]
    exact sized_1 A0 _ c0 l0 a1 w rfl hr0 hz he
  · have hs : sizeOf_ a1 = 8 := by unfold sizeOf_; rw [he]; rfl
    rw [hs]
    exact sized_2 A0 _ c0 l0 a1 w rfl hr0 hz he
  · have hs : sizeOf_ a1 = 16 := by unfold sizeOf_; rw [he]; rfl
    rw [hs]
    exact sized_3 A0 _ c0 l0 a1 w rfl hr0 hz he
  · have hs : sizeOf_ a1 = 32 := by unfold sizeOf_; rw [he]; rfl
    rw [hs]
    exact sized_4 A0 _ c0 l0 a1 w rfl hr0 hz he
  · have hs : sizeOf_ a1 = 64 := by unfold sizeOf_; rw [he]; rfl
    rw [hs]
    exact sized_5 A0 _ c0 l0 a1 w rfl hr0 hz he

/-! ### earshotref02_Quot: function 57 -/
def earshotref02_Quot.f (a0 : Int) (a1 : Int) : Option (Int) := if a1 = 0 then (none) else (if (Int.tmod a0 a1) < 0 then (some (wrap64 ((wrap64 (Int.tdiv a0 a1)) - 1))) else (some (wrap64 (Int.tdiv a0 a1))))
set_option maxHeartbeats 8000000 in
set_option maxRecDepth 100000 in
theorem earshotref02_Quot.calls (a0 : Int) (a1 : Int) (r : Int) (w : World) (h : earshotref02_Quot.f a0 a1 = some r) :
    Calls Tryd.prog 57 #[.int .i64 a0, .int .i64 a1] w fun e w' => e = .returned (.int .i64 r) ∧ Drawn0 w w' := by
  have H : (if a1 = 0 then (none) else (if (Int.tmod a0 a1) < 0 then (some (wrap64 ((wrap64 (Int.tdiv a0 a1)) - 1))) else (some (wrap64 (Int.tdiv a0 a1))))) = some r := h
  clear h
  by_cases c3 : a1 = 0
  · rw [if_pos c3] at H
    exact absurd H (by simp)
  · rw [if_neg c3] at H
    have c3b0 : (a1 == 0) = false := beq_eq_false_iff_ne.mpr c3
    have c3b1 : (a1 != 0) = true := bne_iff_ne.mpr c3
    by_cases c4 : (Int.tmod a0 a1) < 0
    · rw [if_pos c4] at H
      have c4b0 : decide ((Int.tmod a0 a1) < 0) = true := decide_eq_true c4
      clear c4
      obtain rfl := Option.some.inj H
      go_enter Tryd.func57, Tryd.ntmps57
      go_wp2
      go_ret
      exact ⟨by first | rfl | (simp; done) | (simp [*]; done), by repeat (first | exact Drawn0.refl _ | apply Drawn0.step)⟩
    · rw [if_neg c4] at H
      have c4b0 : decide ((Int.tmod a0 a1) < 0) = false := decide_eq_false c4
      clear c4
      obtain rfl := Option.some.inj H
      go_enter Tryd.func57, Tryd.ntmps57
      go_wp2
      go_ret
      exact ⟨by first | rfl | (simp; done) | (simp [*]; done), by repeat (first | exact Drawn0.refl _ | apply Drawn0.step)⟩

/-! ### earshotref02_Rest: function 48 -/
def earshotref02_Rest.f (a0 : Int) (a1 : Int) : Option (Int) := (earshotref02_Quot.f a0 a1).bind fun t111 => (some (wrap64 (a0 - (wrap64 (t111 * a1)))))
set_option maxHeartbeats 8000000 in
set_option maxRecDepth 100000 in
theorem earshotref02_Rest.calls (a0 : Int) (a1 : Int) (r : Int) (w : World) (h : earshotref02_Rest.f a0 a1 = some r) :
    Calls Tryd.prog 48 #[.int .i64 a0, .int .i64 a1] w fun e w' => e = .returned (.int .i64 r) ∧ Drawn0 w w' := by
  have H : ((earshotref02_Quot.f a0 a1).bind fun t111 => (some (wrap64 (a0 - (wrap64 (t111 * a1)))))) = some r := h
  clear h
  replace H := Option.bind_eq_some_iff.mp H
  obtain ⟨t111, A30, H⟩ := H
  replace H : (some (wrap64 (a0 - (wrap64 (t111 * a1))))) = some r := H
  have A3 := Aside0.mk A30
  clear A30
  obtain rfl := Option.some.inj H
  go_enter Tryd.func48, Tryd.ntmps48
  go_wp2_with (first | ((with_reducible refine gate_callee (f := 57) rfl ?_); refine goesL_ (some 8) rfl rfl Tryd.func57 (by kernel_rfl) rfl #[.int .i64 a0, .int .i64 a1] rfl (by (try simp only [List.map_toArray, List.map_cons, List.map_nil]); first | done | rfl | (simp only [List.length_drop, List.length_take]; rfl)) ?_; (with_reducible refine (earshotref02_Quot.calls a0 a1 t111 _ A3.out).mono ?_); rintro e w' ⟨rfl, ⟨nd, rfl⟩⟩; refine ⟨_, rfl, ?_⟩))
  go_ret
  exact ⟨by first | rfl | (simp; done) | (simp [*]; done), by repeat (first | exact Drawn0.refl _ | apply Drawn0.step)⟩

/-! ### earshotref09_Turn: function 39 -/
def earshotref09_Turn.l0 : Nat → List Int → Int → Int → List Int → Int → Option (List Int)
  | 0, _, _, _, _, _ => none
  | k + 1, x0, x1, x5, x6, x7 => if x7 < x5 then ((earshotref02_Rest.f x1 (wrap64 (2 * x5))).bind fun t115 => (if (wrap64 (2 * x5)) = 0 then (none) else (if (Int.tmod (wrap64 (x7 + t115)) (wrap64 (2 * x5))) < x5 then (if 0 ≤ x7 then (if x7 < (x0.length : Int) then (if 0 ≤ (Int.tmod (wrap64 (x7 + t115)) (wrap64 (2 * x5))) then (if (Int.tmod (wrap64 (x7 + t115)) (wrap64 (2 * x5))) < (x6.length : Int) then (earshotref09_Turn.l0 k x0 x1 x5 (x6.set ((Int.tmod (wrap64 (x7 + t115)) (wrap64 (2 * x5))) : Int).toNat (rd x0 x7)) (wrap64 (x7 + 1))) else (none)) else (none)) else (none)) else (none)) else (if 0 ≤ x7 then (if x7 < (x0.length : Int) then (if 0 ≤ (wrap64 ((Int.tmod (wrap64 (x7 + t115)) (wrap64 (2 * x5))) - x5)) then (if (wrap64 ((Int.tmod (wrap64 (x7 + t115)) (wrap64 (2 * x5))) - x5)) < (x6.length : Int) then (earshotref09_Turn.l0 k x0 x1 x5 (x6.set ((wrap64 ((Int.tmod (wrap64 (x7 + t115)) (wrap64 (2 * x5))) - x5)) : Int).toNat (wrap64 (-(rd x0 x7)))) (wrap64 (x7 + 1))) else (none)) else (none)) else (none)) else (none))))) else (some x6)
def earshotref09_Turn.f (k : Nat) (l0 : List Int) (a1 : Int) : Option (List Int) := if 0 ≤ (l0.length : Int) then (if ((l0.length : Int) : Int).toNat ≤ 35184372088832 then (earshotref09_Turn.l0 k l0 a1 (l0.length : Int) (List.replicate ((l0.length : Int) : Int).toNat 0) 0) else (none)) else (none)
theorem earshotref09_Turn.mono_l : ∀ k, (∀ y0 y1 y2 y3 y4, LeO (earshotref09_Turn.l0 k y0 y1 y2 y3 y4) (earshotref09_Turn.l0 (k + 1) y0 y1 y2 y3 y4))
  | 0 => fun _ _ _ _ _ r h => by simp [earshotref09_Turn.l0] at h
  | k + 1 => by
    have ih0 := earshotref09_Turn.mono_l k
    · intro y0 y1 y2 y3 y4
      unfold earshotref09_Turn.l0
      repeat' first
      | (with_reducible exact ih0 _ _ _ _ _)
      | (with_reducible exact LeO.refl _)
      | (with_reducible exact LeO.none _)
      | (with_reducible refine LeO.ite ?_ ?_)
      | (with_reducible refine LeO.bind ?_ (fun _ => ?_))
      | exact ih0 _ _ _ _ _
      | exact LeO.none _
      | refine LeO.ite ?_ ?_
      | refine LeO.bind ?_ (fun _ => ?_)
theorem earshotref09_Turn.mono : ∀ a0 a1 k, LeO (earshotref09_Turn.f k a0 a1) (earshotref09_Turn.f (k + 1) a0 a1) := by
  intro a0 a1 k
  have ih0 := earshotref09_Turn.mono_l k
  unfold earshotref09_Turn.f
  repeat' first
      | (with_reducible exact ih0 _ _ _ _ _)
      | (with_reducible exact LeO.refl _)
      | (with_reducible exact LeO.none _)
      | (with_reducible refine LeO.ite ?_ ?_)
      | (with_reducible refine LeO.bind ?_ (fun _ => ?_))
      | exact ih0 _ _ _ _ _
      | exact LeO.none _
      | refine LeO.ite ?_ ?_
      | refine LeO.bind ?_ (fun _ => ?_)
set_option maxHeartbeats 8000000 in
set_option maxRecDepth 100000 in
theorem earshotref09_Turn.calls (k : Nat) (A0 : Option Addr) (c0 : Nat) (l0 : List Int) (a1 : Int) (r : List Int) (w : World) (hr0 : Kd.C (Kd.int .i64) w A0 l0.length l0) (hc0 : l0.length ≤ c0) (h : earshotref09_Turn.f k l0 a1 = some r) :
    Calls Tryd.prog 39 #[.slice A0 l0.length c0, .int .i64 a1] w fun e w' => ∃ v0_ : Value, e = .returned (v0_) ∧ Kd.R (Kd.int .i64) 3 w' w.heap.size (fun _ => True) v0_ r ∧ Below w.heap.size w w' := by
  have HR0 := Aside0.mk hr0
  have HC0 := Aside0.mk hc0
  clear hr0 hc0
  have HB := Aside0.mk (Below.refl w.heap.size w)
  have H : (if 0 ≤ (l0.length : Int) then (if ((l0.length : Int) : Int).toNat ≤ 35184372088832 then (earshotref09_Turn.l0 k l0 a1 (l0.length : Int) (List.replicate ((l0.length : Int) : Int).toNat 0) 0) else (none)) else (none)) = some r := h
  clear h
  by_cases c3 : 0 ≤ (l0.length : Int)
  · rw [if_pos c3] at H
    have c3b0 := eq_true c3
    have c3b1 : decide (0 ≤ (l0.length : Int)) = true := decide_eq_true c3
    clear c3
    by_cases c4 : ((l0.length : Int) : Int).toNat ≤ 35184372088832
    · rw [if_pos c4] at H
      have c4b0 := eq_true c4
      have c4b1 : decide (((l0.length : Int) : Int).toNat ≤ 35184372088832) = true := decide_eq_true c4
      clear c4
      obtain ⟨y112, hy112⟩ : ∃ y_ : List Int, y_ = (List.replicate ((l0.length : Int) : Int).toNat 0) := ⟨_, rfl⟩
      replace H : (earshotref09_Turn.l0 k l0 a1 (l0.length : Int) y112 0) = some r := by first | (rw [hy112]; with_reducible exact H) | (have H2_ := (Option.bind_some _ _).symm.trans H; rw [hy112]; with_reducible exact H2_) | (have H2_ := (Option.bind_some _ _).symm.trans H; with_reducible exact H2_) | with_reducible exact H | (rw [hy112]; exact H) | exact H
      have Ny112 := Aside0.mk hy112
      clear hy112
      have H' := Aside0.mk H
      clear H
      go_enter Tryd.func39, Tryd.ntmps39
      go_wp2_with (first | ((with_reducible refine gate_dst (N := 12) rfl ?_); refine Kd.R_make (Kd.int .i64) _ 3 rfl (N := 12) rfl 22 _ _ rfl (l0.length : Int) rfl rfl Tryd.underlying22 (.int .i64 0) 8 info3 rfl (by decide) (by omega) 0 (ok := fun _ => True) (okp := fun _ => True) rfl (fun _ hk => hk) trivial (of_decide_eq_true (by first | (with_reducible assumption) | assumption)) (Nat.le_trans (Nat.mul_le_mul_right _ (of_decide_eq_true (by first | (with_reducible assumption) | assumption) : (l0.length : Int).toNat ≤ 35184372088832)) (by omega)) (Below.refl _ _) (Nat.le_refl _) ?_; intro v113 w5 ho6 hb hg_ hnew_; clear hg_ hnew_; (first | rw [← Ny112.out] at ho6 | (simp only [Int.reduceToNat] at ho6; rw [← Ny112.out] at ho6)); have n0_ := Aside0.mk (Kd.R_lower ho6 (below_size (by repeat (first | (with_reducible first | exact HB.out | apply below_alloc | apply pw_below_drewN | apply below_drew1) | exact HB.out)))); have n1_ := Aside0.mk (below_step (by repeat (first | (with_reducible first | exact HB.out | apply below_alloc | apply pw_below_drewN | apply below_drew1) | exact HB.out)) hb); clear HB; have HO114 := n0_; have HB := n1_; clear n0_ n1_; clear hb ho6))
      go_loopg [7] k (fun kq v7 w' => ∃ (x6_1 : List Int) (x7_1 : Int), v7 = .int .i64 x7_1 ∧ Aside0 (earshotref09_Turn.l0 kq l0 a1 (l0.length : Int) x6_1 x7_1 = some r) ∧ Aside0 (kq ≤ k) ∧ Aside0 (Kd.R (Kd.int .i64) 3 w' w.heap.size (fun _ => True) v113 x6_1) ∧ Aside0 (Below w.heap.size w w'))
      case atStart => exact ⟨(y112), (0), (by first | rfl | (simp; done) | (simp [*]; done)), H', ⟨Nat.le_refl _⟩, ⟨by (with_reducible repeat (first | apply Kd.R_alloc | apply Kd.R_drewN | apply Kd.R_drew)); exact HO114.out⟩, ⟨by repeat (first | (with_reducible first | exact HB.out | apply below_alloc | apply pw_below_drewN | apply below_drew1) | exact HB.out)⟩⟩
      case round =>
        clear H'
        try clear p2
        try clear c3
        try clear c3b0
        try clear c3b1
        try clear c4
        try clear c4b0
        try clear c4b1
        obtain ⟨x6_1, x7_1, rfl, HA, HK1, HO_6, HB⟩ := hrel
        cases gk with
        | zero => exact absurd HA.out (by simp [earshotref09_Turn.l0])
        | succ k1 =>
          have H := HA.out
          clear HA
          simp only [earshotref09_Turn.l0] at H
          by_cases c7 : x7_1 < (l0.length : Int)
          · rw [if_pos c7] at H
            have c7b0 : decide (x7_1 < (l0.length : Int)) = true := decide_eq_true c7
            clear c7
            replace H := Option.bind_eq_some_iff.mp H
            obtain ⟨t115, A80, H⟩ := H
            replace H : (if (wrap64 (2 * (l0.length : Int))) = 0 then (none) else (if (Int.tmod (wrap64 (x7_1 + t115)) (wrap64 (2 * (l0.length : Int)))) < (l0.length : Int) then (if 0 ≤ x7_1 then (if x7_1 < (l0.length : Int) then (if 0 ≤ (Int.tmod (wrap64 (x7_1 + t115)) (wrap64 (2 * (l0.length : Int)))) then (if (Int.tmod (wrap64 (x7_1 + t115)) (wrap64 (2 * (l0.length : Int)))) < (x6_1.length : Int) then (earshotref09_Turn.l0 k1 l0 a1 (l0.length : Int) (x6_1.set ((Int.tmod (wrap64 (x7_1 + t115)) (wrap64 (2 * (l0.length : Int)))) : Int).toNat (rd l0 x7_1)) (wrap64 (x7_1 + 1))) else (none)) else (none)) else (none)) else (none)) else (if 0 ≤ x7_1 then (if x7_1 < (l0.length : Int) then (if 0 ≤ (wrap64 ((Int.tmod (wrap64 (x7_1 + t115)) (wrap64 (2 * (l0.length : Int)))) - (l0.length : Int))) then (if (wrap64 ((Int.tmod (wrap64 (x7_1 + t115)) (wrap64 (2 * (l0.length : Int)))) - (l0.length : Int))) < (x6_1.length : Int) then (earshotref09_Turn.l0 k1 l0 a1 (l0.length : Int) (x6_1.set ((wrap64 ((Int.tmod (wrap64 (x7_1 + t115)) (wrap64 (2 * (l0.length : Int)))) - (l0.length : Int))) : Int).toNat (wrap64 (-(rd l0 x7_1)))) (wrap64 (x7_1 + 1))) else (none)) else (none)) else (none)) else (none)))) = some r := H
            have A8 := Aside0.mk A80
            clear A80
            by_cases c9 : (wrap64 (2 * (l0.length : Int))) = 0
            · rw [if_pos c9] at H
              exact absurd H (by simp)
            · rw [if_neg c9] at H
              have c9b0 : ((wrap64 (2 * (l0.length : Int))) == 0) = false := beq_eq_false_iff_ne.mpr c9
              have c9b1 : ((wrap64 (2 * (l0.length : Int))) != 0) = true := bne_iff_ne.mpr c9
              by_cases c10 : (Int.tmod (wrap64 (x7_1 + t115)) (wrap64 (2 * (l0.length : Int)))) < (l0.length : Int)
              · rw [if_pos c10] at H
                have c10b0 : decide ((Int.tmod (wrap64 (x7_1 + t115)) (wrap64 (2 * (l0.length : Int)))) < (l0.length : Int)) = true := decide_eq_true c10
                clear c10
                by_cases c11 : 0 ≤ x7_1
                · rw [if_pos c11] at H
                  have c11b0 : decide (0 ≤ x7_1) = true := decide_eq_true c11
                  clear c11
                  by_cases c12 : x7_1 < (l0.length : Int)
                  · rw [if_pos c12] at H
                    have c12b0 : decide (x7_1 < (l0.length : Int)) = true := decide_eq_true c12
                    clear c12
                    obtain ⟨ji13, hji13⟩ : ∃ j_ : Int, (Int.tmod (wrap64 (x7_1 + t115)) (wrap64 (2 * (l0.length : Int)))) = j_ := ⟨_, rfl⟩
                    replace H : (if 0 ≤ (ji13) then (if (ji13) < (x6_1.length : Int) then (earshotref09_Turn.l0 k1 l0 a1 (l0.length : Int) (x6_1.set ((ji13) : Int).toNat (rd l0 x7_1)) (wrap64 (x7_1 + 1))) else (none)) else (none)) = some r := by first | (rw [hji13] at H; exact H) | (simp only [hji13] at H ⊢; exact H)
                    (try rw [hji13] at c10b0)
                    (try rw [hji13] at A8)
                    by_cases c14 : 0 ≤ (ji13)
                    · rw [if_pos c14] at H
                      have c14b0 : decide (0 ≤ (ji13)) = true := decide_eq_true c14
                      clear c14
                      by_cases c15 : (ji13) < (x6_1.length : Int)
                      · rw [if_pos c15] at H
                        have c15b0 : decide ((ji13) < (x6_1.length : Int)) = true := decide_eq_true c15
                        clear c15
                        obtain ⟨y117, hy117⟩ : ∃ y_ : List Int, y_ = (x6_1.set ((ji13) : Int).toNat (rd l0 x7_1)) := ⟨_, rfl⟩
                        replace H : (earshotref09_Turn.l0 k1 l0 a1 (l0.length : Int) y117 (wrap64 (x7_1 + 1))) = some r := by first | (rw [hy117]; with_reducible exact H) | (have H2_ := (Option.bind_some _ _).symm.trans H; rw [hy117]; with_reducible exact H2_) | (have H2_ := (Option.bind_some _ _).symm.trans H; with_reducible exact H2_) | with_reducible exact H | (rw [hy117]; exact H) | exact H
                        have Ny117 := Aside0.mk hy117
                        clear hy117
                        have H' := Aside0.mk H
                        clear H
                        go_wp2_with (first | ((with_reducible refine gate_callee (f := 48) rfl ?_); refine goesL_ (some 22) rfl rfl Tryd.func48 (by kernel_rfl) rfl #[.int .i64 a1, .int .i64 (wrap64 (2 * (l0.length : Int)))] rfl (by (try simp only [List.map_toArray, List.map_cons, List.map_nil]); first | done | rfl | (simp only [List.length_drop, List.length_take]; rfl)) ?_; (with_reducible refine (earshotref02_Rest.calls a1 (wrap64 (2 * (l0.length : Int))) t115 _ A8.out).mono ?_); rintro e w' ⟨rfl, ⟨nd, rfl⟩⟩; refine ⟨_, rfl, ?_⟩; (try (rw [drewN_self wr]; generalize hq_ : World.drewN wr _ = wr; have n0_ : Aside0 (Kd.R (Kd.int .i64) 3 wr w.heap.size (fun _ => True) v113 x6_1) := ⟨by rw [← hq_]; exact (by (with_reducible repeat (first | apply Kd.R_alloc | apply Kd.R_drewN | apply Kd.R_drew)); (first | exact HO_6.out | exact Kd.R_mono HO_6.out (fun _ _ => trivial) | exact Kd.R_mono HO_6.out (fun _ hk => hk.1)))⟩; have n1_ : Aside0 (Below w.heap.size w wr) := ⟨by rw [← hq_]; exact (by repeat (first | (with_reducible first | exact HB.out | apply below_alloc | apply pw_below_drewN | apply below_drew1) | exact HB.out))⟩; clear HO_6 HB hq_; have HO_6 := n0_; have HB := n1_; clear n0_ n1_)); have p116 : 0 ≤ (x7_1 : Int) := of_decide_eq_true (by first | (with_reducible assumption) | assumption); have q116 : x7_1 < (l0.length : Int) := of_decide_eq_true (by first | (with_reducible assumption) | assumption); obtain ⟨ad116, e116, hx116_0⟩ := Kd.at_int HR0.out x7_1 p116 q116; cases e116; replace hx116_0 := (HB.out.cell (World.block_lt_of_cell? w _ hx116_0)).trans hx116_0; replace p116 := eq_true p116; replace q116 := eq_true q116; have p16 : 0 ≤ ((ji13) : Int) := of_decide_eq_true (by first | (with_reducible assumption) | assumption); have q16 : ((ji13) : Int) < ((x6_1.length : Int) : Int) := of_decide_eq_true (by first | (with_reducible assumption) | assumption); obtain ⟨go16, co16, eo16, gb16, gl16, cl16, HG16⟩ := Kd.R_form HO_6.out (by omega); (first | cases eo16 | (injection eo16 with ea_ en_ ec_; (first | subst ea_ | (injection ea_ with ea_; subst ea_)); subst ec_; clear en_)); have GB16 := Aside0.mk gb16; have GG16 := Aside0.mk HG16; clear gb16 gl16 HG16; obtain ⟨hx16_0, hf16_0⟩ := Kd.R_celln 0 HO_6.out ((ji13) : Int) p16 q16; replace p16 := eq_true p16; replace q16 := eq_true q16; obtain ⟨hy17_, hz17_⟩ := Kd.R_celln 0 HO_6.out ((ji13) : Int) (of_decide_eq_true (by first | (with_reducible assumption) | assumption)) (of_decide_eq_true (by first | (with_reducible assumption) | assumption)); have HP17 := Kd.R_putg HO_6.out ((ji13) : Int) (rd l0 x7_1)) | ((with_reducible refine gate_store (t := 3) (p := 36) rfl ?_); refine store_event (t := 3) (p := 36) (v := ?vo_w18) (w1 := (wr.setCell ⟨go16, ((ji13) : Int).toNat, none⟩ (.int .i64 (rd l0 x7_1)))) ?hg ?ho ?hn ?hr ?_; (case ho => rfl); (case hg => first | rfl | exact wanted_on rfl rfl rfl (by first | assumption | rfl | (simp [*]; done))); (case hn => rfl); (case hr => first | (go_simp; done) | (go_simp; rfl)); intro w18 hw; have hg : wr.grownBy w18 (some go16) := (by rw [hw]; exact HP17.2); have hp_ : Kd.R (Kd.int .i64) 3 w18 w.heap.size (fun _ => True) (.slice (some ⟨go16, 0, none⟩) x6_1.length co16) y117 := (by rw [hw, Ny117.out]; exact HP17.1); clear HP17; have n0_ := Aside0.mk (hp_); have n1_ := Aside0.mk ((by rw [hw]; exact below_set (HB.out) GB16.out : Below w.heap.size w w18)); clear HO_6; clear HB; have HO_6 := n0_; have HB := n1_; clear n0_ n1_; clear hg hw hp_))
                        go_roundg k1
                        case measure => have := HK1.out; omega
                        case rel => exact ⟨(y117), (wrap64 (x7_1 + 1)), (by first | rfl | (simp; done) | (simp [*]; done)), H', ⟨by have := HK1.out; omega⟩, ⟨by (with_reducible repeat (first | apply Kd.R_alloc | apply Kd.R_drewN | apply Kd.R_drew)); exact HO_6.out⟩, ⟨by repeat (first | (with_reducible first | exact HB.out | apply below_alloc | apply pw_below_drewN | apply below_drew1) | exact HB.out)⟩⟩
                      · rw [if_neg c15] at H
                        exact absurd H (by simp)
                    · rw [if_neg c14] at H
                      exact absurd H (by simp)
                  · rw [if_neg c12] at H
                    exact absurd H (by simp)
                · rw [if_neg c11] at H
                  exact absurd H (by simp)
              · rw [if_neg c10] at H
                have c10b0 : decide ((Int.tmod (wrap64 (x7_1 + t115)) (wrap64 (2 * (l0.length : Int)))) < (l0.length : Int)) = false := decide_eq_false c10
                clear c10
                by_cases c19 : 0 ≤ x7_1
                · rw [if_pos c19] at H
                  have c19b0 : decide (0 ≤ x7_1) = true := decide_eq_true c19
                  clear c19
                  by_cases c20 : x7_1 < (l0.length : Int)
                  · rw [if_pos c20] at H
                    have c20b0 : decide (x7_1 < (l0.length : Int)) = true := decide_eq_true c20
                    clear c20
                    obtain ⟨ji21, hji21⟩ : ∃ j_ : Int, (wrap64 ((Int.tmod (wrap64 (x7_1 + t115)) (wrap64 (2 * (l0.length : Int)))) - (l0.length : Int))) = j_ := ⟨_, rfl⟩
                    replace H : (if 0 ≤ (ji21) then (if (ji21) < (x6_1.length : Int) then (earshotref09_Turn.l0 k1 l0 a1 (l0.length : Int) (x6_1.set ((ji21) : Int).toNat (wrap64 (-(rd l0 x7_1)))) (wrap64 (x7_1 + 1))) else (none)) else (none)) = some r := by first | (rw [hji21] at H; exact H) | (simp only [hji21] at H ⊢; exact H)
                    (try rw [hji21] at A8)
                    have hji21w : (IntKind.i64.wrap ((Int.tmod (wrap64 (x7_1 + t115)) (wrap64 (2 * (l0.length : Int)))) - (l0.length : Int))) = ji21 := (i64_w _).trans hji21
                    by_cases c22 : 0 ≤ (ji21)
                    · rw [if_pos c22] at H
                      have c22b0 : decide (0 ≤ (ji21)) = true := decide_eq_true c22
                      clear c22
                      by_cases c23 : (ji21) < (x6_1.length : Int)
                      · rw [if_pos c23] at H
                        have c23b0 : decide ((ji21) < (x6_1.length : Int)) = true := decide_eq_true c23
                        clear c23
                        obtain ⟨y119, hy119⟩ : ∃ y_ : List Int, y_ = (x6_1.set ((ji21) : Int).toNat (wrap64 (-(rd l0 x7_1)))) := ⟨_, rfl⟩
                        replace H : (earshotref09_Turn.l0 k1 l0 a1 (l0.length : Int) y119 (wrap64 (x7_1 + 1))) = some r := by first | (rw [hy119]; with_reducible exact H) | (have H2_ := (Option.bind_some _ _).symm.trans H; rw [hy119]; with_reducible exact H2_) | (have H2_ := (Option.bind_some _ _).symm.trans H; with_reducible exact H2_) | with_reducible exact H | (rw [hy119]; exact H) | exact H
                        have Ny119 := Aside0.mk hy119
                        clear hy119
                        have H' := Aside0.mk H
                        clear H
                        go_wp2_with (first | ((with_reducible refine gate_callee (f := 48) rfl ?_); refine goesL_ (some 22) rfl rfl Tryd.func48 (by kernel_rfl) rfl #[.int .i64 a1, .int .i64 (wrap64 (2 * (l0.length : Int)))] rfl (by (try simp only [List.map_toArray, List.map_cons, List.map_nil]); first | done | rfl | (simp only [List.length_drop, List.length_take]; rfl)) ?_; (with_reducible refine (earshotref02_Rest.calls a1 (wrap64 (2 * (l0.length : Int))) t115 _ A8.out).mono ?_); rintro e w' ⟨rfl, ⟨nd, rfl⟩⟩; refine ⟨_, rfl, ?_⟩; (try (rw [drewN_self wr]; generalize hq_ : World.drewN wr _ = wr; have n0_ : Aside0 (Kd.R (Kd.int .i64) 3 wr w.heap.size (fun _ => True) v113 x6_1) := ⟨by rw [← hq_]; exact (by (with_reducible repeat (first | apply Kd.R_alloc | apply Kd.R_drewN | apply Kd.R_drew)); (first | exact HO_6.out | exact Kd.R_mono HO_6.out (fun _ _ => trivial) | exact Kd.R_mono HO_6.out (fun _ hk => hk.1)))⟩; have n1_ : Aside0 (Below w.heap.size w wr) := ⟨by rw [← hq_]; exact (by repeat (first | (with_reducible first | exact HB.out | apply below_alloc | apply pw_below_drewN | apply below_drew1) | exact HB.out))⟩; clear HO_6 HB hq_; have HO_6 := n0_; have HB := n1_; clear n0_ n1_)); have p118 : 0 ≤ (x7_1 : Int) := of_decide_eq_true (by first | (with_reducible assumption) | assumption); have q118 : x7_1 < (l0.length : Int) := of_decide_eq_true (by first | (with_reducible assumption) | assumption); obtain ⟨ad118, e118, hx118_0⟩ := Kd.at_int HR0.out x7_1 p118 q118; cases e118; replace hx118_0 := (HB.out.cell (World.block_lt_of_cell? w _ hx118_0)).trans hx118_0; replace p118 := eq_true p118; replace q118 := eq_true q118; have p24 : 0 ≤ ((ji21) : Int) := of_decide_eq_true (by first | (with_reducible assumption) | assumption); have q24 : ((ji21) : Int) < ((x6_1.length : Int) : Int) := of_decide_eq_true (by first | (with_reducible assumption) | assumption); obtain ⟨go24, co24, eo24, gb24, gl24, cl24, HG24⟩ := Kd.R_form HO_6.out (by omega); (first | cases eo24 | (injection eo24 with ea_ en_ ec_; (first | subst ea_ | (injection ea_ with ea_; subst ea_)); subst ec_; clear en_)); have GB24 := Aside0.mk gb24; have GG24 := Aside0.mk HG24; clear gb24 gl24 HG24; obtain ⟨hx24_0, hf24_0⟩ := Kd.R_celln 0 HO_6.out ((ji21) : Int) p24 q24; replace p24 := eq_true p24; replace q24 := eq_true q24; obtain ⟨hy25_, hz25_⟩ := Kd.R_celln 0 HO_6.out ((ji21) : Int) (of_decide_eq_true (by first | (with_reducible assumption) | assumption)) (of_decide_eq_true (by first | (with_reducible assumption) | assumption)); have HP25 := Kd.R_putg HO_6.out ((ji21) : Int) (wrap64 (-(rd l0 x7_1)))) | ((with_reducible refine gate_store (t := 3) (p := 46) rfl ?_); refine store_event (t := 3) (p := 46) (v := ?vo_w26) (w1 := (wr.setCell ⟨go24, ((ji21) : Int).toNat, none⟩ (.int .i64 (wrap64 (-(rd l0 x7_1)))))) ?hg ?ho ?hn ?hr ?_; (case ho => rfl); (case hg => first | rfl | exact wanted_on rfl rfl rfl (by first | assumption | rfl | (simp [*]; done))); (case hn => rfl); (case hr => first | (go_simp; done) | (go_simp; rfl)); intro w26 hw; have hg : wr.grownBy w26 (some go24) := (by rw [hw]; exact HP25.2); have hp_ : Kd.R (Kd.int .i64) 3 w26 w.heap.size (fun _ => True) (.slice (some ⟨go24, 0, none⟩) x6_1.length co24) y119 := (by rw [hw, Ny119.out]; exact HP25.1); clear HP25; have n0_ := Aside0.mk (hp_); have n1_ := Aside0.mk ((by rw [hw]; exact below_set (HB.out) GB24.out : Below w.heap.size w w26)); clear HO_6; clear HB; have HO_6 := n0_; have HB := n1_; clear n0_ n1_; clear hg hw hp_))
                        go_roundg k1
                        case measure => have := HK1.out; omega
                        case rel => exact ⟨(y119), (wrap64 (x7_1 + 1)), (by first | rfl | (simp; done) | (simp [*]; done)), H', ⟨by have := HK1.out; omega⟩, ⟨by (with_reducible repeat (first | apply Kd.R_alloc | apply Kd.R_drewN | apply Kd.R_drew)); exact HO_6.out⟩, ⟨by repeat (first | (with_reducible first | exact HB.out | apply below_alloc | apply pw_below_drewN | apply below_drew1) | exact HB.out)⟩⟩
                      · rw [if_neg c23] at H
                        exact absurd H (by simp)
                    · rw [if_neg c22] at H
                      exact absurd H (by simp)
                  · rw [if_neg c20] at H
                    exact absurd H (by simp)
                · rw [if_neg c19] at H
                  exact absurd H (by simp)
          · rw [if_neg c7] at H
            have c7b0 : decide (x7_1 < (l0.length : Int)) = false := decide_eq_false c7
            clear c7
            obtain rfl := Option.some.inj H
            go_wp2
            go_ret
            exact ⟨_, by first | rfl | (simp [errW_none, errW_some] <;> rfl) | (simp [*, errW_none, errW_some] <;> rfl), by (with_reducible repeat (first | apply Kd.R_alloc | apply Kd.R_drewN | apply Kd.R_drew)); exact HO_6.out, by repeat (first | (with_reducible first | exact HB.out | apply below_alloc | apply pw_below_drewN | apply below_drew1) | exact HB.out)⟩
    · rw [if_neg c4] at H
      exact absurd H (by simp)
  · rw [if_neg c3] at H
    exact absurd H (by simp)

end Go.Proofs.YtphmfecabbellaaDoor.PFftDirect
