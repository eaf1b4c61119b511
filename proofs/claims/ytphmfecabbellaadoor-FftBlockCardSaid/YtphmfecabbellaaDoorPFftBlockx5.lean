-- Written by a program of this work (wip/tools) for this claim; Lean checks it.
import Derived.Test.YtphmfecabbellaaDoorPFftBlockx0
import Derived.Test.YtphmfecabbellaaDoorPFftBlockx1
import Derived.Test.YtphmfecabbellaaDoorPFftBlockx2
import Derived.Test.YtphmfecabbellaaDoorPFftBlockx3
namespace Go.Proofs.YtphmfecabbellaaDoor.PFftBlock
open Go.RowKit Go.Proofs.YtphmfecabbellaaDoorW.PrintWords Go.Proofs.YtphmfecabbellaaDoorW.PrintLast Go.Proofs.YtphmfecabbellaaDoorW.PrintMore
attribute [local go_sem] max2_int min2_int max_two min_two max_three min_three max_four min_four   -- for this text's walks alone
set_option linter.unusedVariables false
set_option linter.unusedSimpArgs false

/-! ### earshotlaw10_sized: function 25 -/



def sizedL (n : Nat) (l : List Int) : List Int := (List.range n).map fun i => l.getD i 0
theorem sizedL_length (n : Nat) (l : List Int) : (sizedL n l).length = n := by simp [sizedL]
theorem sizedL_getD (n : Nat) (l : List Int) (i : Nat) (hi : i < n) : (sizedL n l).getD i 0 = l.getD i 0 := getD_map_range _ _ _ hi
def sizeOf_ (s : Int) : Nat := 2 * 2 ^ (s % 6).toNat
theorem size_rem {s e : Int} (h : s % 6 = e) : Int.tmod (IntKind.i64.wrap (Int.tmod s 6 + 6)) 6 = e ∧ Int.tmod (wrap64 (Int.tmod s 6 + 6)) 6 = e ∧ Int.tmod (Int.tmod s 6 + 6) 6 = e := by
  have a := Int.lt_tmod_of_pos s (show (0 : Int) < 6 by decide)
  have b := Int.tmod_lt_of_pos s (show (0 : Int) < 6 by decide)
  have c := Int.tmod_eq_emod (a := s) (b := 6)
  have k : IntKind.i64.wrap (Int.tmod s 6 + 6) = Int.tmod s 6 + 6 := by rw [IntKind.wrap_i64]; omega
  have k2 : wrap64 (Int.tmod s 6 + 6) = Int.tmod s 6 + 6 := by unfold wrap64; omega
  have d : Int.tmod (Int.tmod s 6 + 6) 6 = e := by
    rw [Int.tmod_eq_emod_of_nonneg (by omega)]
    split at c <;> omega
  exact ⟨by rw [k]; exact d, by rw [k2]; exact d, d⟩
def earshotlaw10_sized.f (l0 : List Int) (a1 : Int) : Option (List Int) := if decide (l0.length ≤ 4000000000000000000) then some (sizedL (sizeOf_ a1) l0) else none
set_option maxHeartbeats 8000000 in
theorem sized_0 (A0 : Option Addr) (m c0 : Nat) (l0 : List Int) (a1 : Int) (w : World) (hl : l0.length = m) (hr0 : Kd.C (Kd.int .i64) w A0 m l0) (hm : m ≤ 4000000000000000000) (he : a1 % 6 = 0) :
    Calls Tryd.prog 25 #[.slice A0 m c0, .int .i64 a1] w fun e w' => ∃ v0_ : Value, e = .returned v0_ ∧ Kd.R (Kd.int .i64) 3 w' w.heap.size (fun _ => True) v0_ (sizedL 2 l0) ∧ Below w.heap.size w w' := by
  obtain ⟨q1, q2, q3⟩ := size_rem he
  have hmk := print_make 22 3 .i64 8 Tryd.underlying22 turn_info (by decide) 2 (by omega)
  simp only [Int.cast_ofNat_Int] at hmk
  have HC := Aside0.mk hr0
  have HL := Aside0.mk hl
  clear hl hr0 he
  go_enter Tryd.func25, Tryd.ntmps25
  go_wp2
  go_loopw [6] (fun v wr => ∃ (i : Nat) (xs : List Int), i ≤ 2 ∧ i ≤ m ∧ v = .int .i64 (i : Int) ∧ Aside0 (xs.length = 2) ∧ Aside0 (∀ j, j < 2 → xs.getD j 0 = if j < i then l0.getD j 0 else 0) ∧ Aside0 (wr.ownsRow w.heap.size 3 1 (.slice (some ⟨w.heap.size, 0, none⟩) 2 2) 2 (nums .i64 xs)) ∧ Aside0 (Below w.heap.size w wr)) (fun v _ => 2 - (intOf v).toNat)
  case atStart =>
    refine ⟨0, List.replicate 2 0, by omega, by omega, rfl, ⟨by simp⟩, ⟨fun j hj => by rw [if_neg (by omega), List.getD_eq_getElem?_getD, List.getElem?_replicate, if_pos hj]; rfl⟩, ⟨?_⟩, ⟨by repeat (first | exact Below.refl _ _ | apply below_alloc | apply pw_below_drewN)⟩⟩
    exact own_made w w.heap.size 3 .i64 2 (Nat.le_refl _) (by omega)
  case round =>
    obtain ⟨i, xs, hi, him, rfl, HX, HJ, HO, HB⟩ := hrel
    by_cases hlt : i < 2 ∧ i < m
    · obtain ⟨hlt, hltm⟩ := hlt
      obtain ⟨ad, rfl, hcs⟩ := sp_ad HC.out (by omega)
      have hcell := sp_cell (Kd.C_below HC.out HB.out) i hltm
      obtain ⟨⟨y, hy⟩, hfr⟩ := own_free HO.out i hlt
      obtain ⟨x, hx⟩ : ∃ x, l0.getD i 0 = x := ⟨_, rfl⟩
      rw [hx] at hcell
      have HXV := Aside0.mk hx
      clear hx hcs
      go_wp2
      go_roundw
      case rel =>
        have hst := own_store HO.out (i : Int) x
        rw [Int.toNat_natCast] at hst
        refine ⟨i + 1, _, by omega, by omega, by go_num, ⟨by rw [List.length_set, HX.out]⟩, ⟨?_⟩, ⟨hst.1⟩, ⟨Below.grown HB.out hst.2 HB.out.size (fun k hk => by injection hk with hk; omega)⟩⟩
        intro j hj
        by_cases e : j = i
        · subst e
          rw [if_pos (by omega), HXV.out, List.getD_eq_getElem?_getD, List.getElem?_set_self (by rw [HX.out]; exact hlt)]; rfl
        · have := HJ.out j hj
          rw [List.getD_eq_getElem?_getD] at this ⊢
          rw [List.getElem?_set_ne (fun h => e h.symm), this]
          by_cases h2 : j < i
          · rw [if_pos h2, if_pos (by omega)]
          · rw [if_neg h2, if_neg (by omega)]
      case measure => simp [intOf]; omega
    · have HU : Aside0 (xs = sizedL 2 l0) := ⟨by
        refine row_ext (by rw [HX.out, sizedL_length]) (fun j hj => ?_)
        rw [HX.out] at hj
        rw [HJ.out j hj, sizedL_getD _ _ _ hj]
        split
        · rfl
        · rw [List.getD_eq_getElem?_getD, List.getElem?_eq_none (by rw [HL.out]; omega)]; rfl⟩
      have hex : i = 2 ∨ i < 2 ∧ m = i := by omega
      clear hlt
      rcases hex with rfl | ⟨h1, rfl⟩
      all_goals
        go_wp2
        go_ret
        refine ⟨_, rfl, ?_, HB.out⟩
        rw [← HU.out]
        exact Kd.R_of_own (enc := Value.int .i64) (h1 := fun _ => rfl) (ok := fun _ => True) (xs := xs) (by rw [HX.out]; exact HO.out) (fun _ _ => trivial)
set_option maxHeartbeats 8000000 in
theorem sized_1 (A0 : Option Addr) (m c0 : Nat) (l0 : List Int) (a1 : Int) (w : World) (hl : l0.length = m) (hr0 : Kd.C (Kd.int .i64) w A0 m l0) (hm : m ≤ 4000000000000000000) (he : a1 % 6 = 1) :
    Calls Tryd.prog 25 #[.slice A0 m c0, .int .i64 a1] w fun e w' => ∃ v0_ : Value, e = .returned v0_ ∧ Kd.R (Kd.int .i64) 3 w' w.heap.size (fun _ => True) v0_ (sizedL 4 l0) ∧ Below w.heap.size w w' := by
  obtain ⟨q1, q2, q3⟩ := size_rem he
  have hmk := print_make 22 3 .i64 8 Tryd.underlying22 turn_info (by decide) 4 (by omega)
  simp only [Int.cast_ofNat_Int] at hmk
  have HC := Aside0.mk hr0
  have HL := Aside0.mk hl
  clear hl hr0 he
  go_enter Tryd.func25, Tryd.ntmps25
  go_wp2
  go_loopw [6] (fun v wr => ∃ (i : Nat) (xs : List Int), i ≤ 4 ∧ i ≤ m ∧ v = .int .i64 (i : Int) ∧ Aside0 (xs.length = 4) ∧ Aside0 (∀ j, j < 4 → xs.getD j 0 = if j < i then l0.getD j 0 else 0) ∧ Aside0 (wr.ownsRow w.heap.size 3 1 (.slice (some ⟨w.heap.size, 0, none⟩) 4 4) 4 (nums .i64 xs)) ∧ Aside0 (Below w.heap.size w wr)) (fun v _ => 4 - (intOf v).toNat)
  case atStart =>
    refine ⟨0, List.replicate 4 0, by omega, by omega, rfl, ⟨by simp⟩, ⟨fun j hj => by rw [if_neg (by omega), List.getD_eq_getElem?_getD, List.getElem?_replicate, if_pos hj]; rfl⟩, ⟨?_⟩, ⟨by repeat (first | exact Below.refl _ _ | apply below_alloc | apply pw_below_drewN)⟩⟩
    exact own_made w w.heap.size 3 .i64 4 (Nat.le_refl _) (by omega)
  case round =>
    obtain ⟨i, xs, hi, him, rfl, HX, HJ, HO, HB⟩ := hrel
    by_cases hlt : i < 4 ∧ i < m
    · obtain ⟨hlt, hltm⟩ := hlt
      obtain ⟨ad, rfl, hcs⟩ := sp_ad HC.out (by omega)
      have hcell := sp_cell (Kd.C_below HC.out HB.out) i hltm
      obtain ⟨⟨y, hy⟩, hfr⟩ := own_free HO.out i hlt
      obtain ⟨x, hx⟩ : ∃ x, l0.getD i 0 = x := ⟨_, rfl⟩
      rw [hx] at hcell
      have HXV := Aside0.mk hx
      clear hx hcs
      go_wp2
      go_roundw
      case rel =>
        have hst := own_store HO.out (i : Int) x
        rw [Int.toNat_natCast] at hst
        refine ⟨i + 1, _, by omega, by omega, by go_num, ⟨by rw [List.length_set, HX.out]⟩, ⟨?_⟩, ⟨hst.1⟩, ⟨Below.grown HB.out hst.2 HB.out.size (fun k hk => by injection hk with hk; omega)⟩⟩
        intro j hj
        by_cases e : j = i
        · subst e
          rw [if_pos (by omega), HXV.out, List.getD_eq_getElem?_getD, List.getElem?_set_self (by rw [HX.out]; exact hlt)]; rfl
        · have := HJ.out j hj
          rw [List.getD_eq_getElem?_getD] at this ⊢
          rw [List.getElem?_set_ne (fun h => e h.symm), this]
          by_cases h2 : j < i
          · rw [if_pos h2, if_pos (by omega)]
          · rw [if_neg h2, if_neg (by omega)]
      case measure => simp [intOf]; omega
    · have HU : Aside0 (xs = sizedL 4 l0) := ⟨by
        refine row_ext (by rw [HX.out, sizedL_length]) (fun j hj => ?_)
        rw [HX.out] at hj
        rw [HJ.out j hj, sizedL_getD _ _ _ hj]
        split
        · rfl
        · rw [List.getD_eq_getElem?_getD, List.getElem?_eq_none (by rw [HL.out]; omega)]; rfl⟩
      have hex : i = 4 ∨ i < 4 ∧ m = i := by omega
      clear hlt
      rcases hex with rfl | ⟨h1, rfl⟩
      all_goals
        go_wp2
        go_ret
        refine ⟨_, rfl, ?_, HB.out⟩
        rw [← HU.out]
        exact Kd.R_of_own (enc := Value.int .i64) (h1 := fun _ => rfl) (ok := fun _ => True) (xs := xs) (by rw [HX.out]; exact HO.out) (fun _ _ => trivial)
set_option maxHeartbeats 8000000 in
theorem sized_2 (A0 : Option Addr) (m c0 : Nat) (l0 : List Int) (a1 : Int) (w : World) (hl : l0.length = m) (hr0 : Kd.C (Kd.int .i64) w A0 m l0) (hm : m ≤ 4000000000000000000) (he : a1 % 6 = 2) :
    Calls Tryd.prog 25 #[.slice A0 m c0, .int .i64 a1] w fun e w' => ∃ v0_ : Value, e = .returned v0_ ∧ Kd.R (Kd.int .i64) 3 w' w.heap.size (fun _ => True) v0_ (sizedL 8 l0) ∧ Below w.heap.size w w' := by
  obtain ⟨q1, q2, q3⟩ := size_rem he
  have hmk := print_make 22 3 .i64 8 Tryd.underlying22 turn_info (by decide) 8 (by omega)
  simp only [Int.cast_ofNat_Int] at hmk
  have HC := Aside0.mk hr0
  have HL := Aside0.mk hl
  clear hl hr0 he
  go_enter Tryd.func25, Tryd.ntmps25
  go_wp2
  go_loopw [6] (fun v wr => ∃ (i : Nat) (xs : List Int), i ≤ 8 ∧ i ≤ m ∧ v = .int .i64 (i : Int) ∧ Aside0 (xs.length = 8) ∧ Aside0 (∀ j, j < 8 → xs.getD j 0 = if j < i then l0.getD j 0 else 0) ∧ Aside0 (wr.ownsRow w.heap.size 3 1 (.slice (some ⟨w.heap.size, 0, none⟩) 8 8) 8 (nums .i64 xs)) ∧ Aside0 (Below w.heap.size w wr)) (fun v _ => 8 - (intOf v).toNat)
  case atStart =>
    refine ⟨0, List.replicate 8 0, by omega, by omega, rfl, ⟨by simp⟩, ⟨fun j hj => by rw [if_neg (by omega), List.getD_eq_getElem?_getD, List.getElem?_replicate, if_pos hj]; rfl⟩, ⟨?_⟩, ⟨by repeat (first | exact Below.refl _ _ | apply below_alloc | apply pw_below_drewN)⟩⟩
    exact own_made w w.heap.size 3 .i64 8 (Nat.le_refl _) (by omega)
  case round =>
    obtain ⟨i, xs, hi, him, rfl, HX, HJ, HO, HB⟩ := hrel
    by_cases hlt : i < 8 ∧ i < m
    · obtain ⟨hlt, hltm⟩ := hlt
      obtain ⟨ad, rfl, hcs⟩ := sp_ad HC.out (by omega)
      have hcell := sp_cell (Kd.C_below HC.out HB.out) i hltm
      obtain ⟨⟨y, hy⟩, hfr⟩ := own_free HO.out i hlt
      obtain ⟨x, hx⟩ : ∃ x, l0.getD i 0 = x := ⟨_, rfl⟩
      rw [hx] at hcell
      have HXV := Aside0.mk hx
      clear hx hcs
      go_wp2
      go_roundw
      case rel =>
        have hst := own_store HO.out (i : Int) x
        rw [Int.toNat_natCast] at hst
        refine ⟨i + 1, _, by omega, by omega, by go_num, ⟨by rw [List.length_set, HX.out]⟩, ⟨?_⟩, ⟨hst.1⟩, ⟨Below.grown HB.out hst.2 HB.out.size (fun k hk => by injection hk with hk; omega)⟩⟩
        intro j hj
        by_cases e : j = i
        · subst e
          rw [if_pos (by omega), HXV.out, List.getD_eq_getElem?_getD, List.getElem?_set_self (by rw [HX.out]; exact hlt)]; rfl
        · have := HJ.out j hj
          rw [List.getD_eq_getElem?_getD] at this ⊢
          rw [List.getElem?_set_ne (fun h => e h.symm), this]
          by_cases h2 : j < i
          · rw [if_pos h2, if_pos (by omega)]
          · rw [if_neg h2, if_neg (by omega)]
      case measure => simp [intOf]; omega
    · have HU : Aside0 (xs = sizedL 8 l0) := ⟨by
        refine row_ext (by rw [HX.out, sizedL_length]) (fun j hj => ?_)
        rw [HX.out] at hj
        rw [HJ.out j hj, sizedL_getD _ _ _ hj]
        split
        · rfl
        · rw [List.getD_eq_getElem?_getD, List.getElem?_eq_none (by rw [HL.out]; omega)]; rfl⟩
      have hex : i = 8 ∨ i < 8 ∧ m = i := by omega
      clear hlt
      rcases hex with rfl | ⟨h1, rfl⟩
      all_goals
        go_wp2
        go_ret
        refine ⟨_, rfl, ?_, HB.out⟩
        rw [← HU.out]
        exact Kd.R_of_own (enc := Value.int .i64) (h1 := fun _ => rfl) (ok := fun _ => True) (xs := xs) (by rw [HX.out]; exact HO.out) (fun _ _ => trivial)
set_option maxHeartbeats 8000000 in
theorem sized_3 (A0 : Option Addr) (m c0 : Nat) (l0 : List Int) (a1 : Int) (w : World) (hl : l0.length = m) (hr0 : Kd.C (Kd.int .i64) w A0 m l0) (hm : m ≤ 4000000000000000000) (he : a1 % 6 = 3) :
    Calls Tryd.prog 25 #[.slice A0 m c0, .int .i64 a1] w fun e w' => ∃ v0_ : Value, e = .returned v0_ ∧ Kd.R (Kd.int .i64) 3 w' w.heap.size (fun _ => True) v0_ (sizedL 16 l0) ∧ Below w.heap.size w w' := by
  obtain ⟨q1, q2, q3⟩ := size_rem he
  have hmk := print_make 22 3 .i64 8 Tryd.underlying22 turn_info (by decide) 16 (by omega)
  simp only [Int.cast_ofNat_Int] at hmk
  have HC := Aside0.mk hr0
  have HL := Aside0.mk hl
  clear hl hr0 he
  go_enter Tryd.func25, Tryd.ntmps25
  go_wp2
  go_loopw [6] (fun v wr => ∃ (i : Nat) (xs : List Int), i ≤ 16 ∧ i ≤ m ∧ v = .int .i64 (i : Int) ∧ Aside0 (xs.length = 16) ∧ Aside0 (∀ j, j < 16 → xs.getD j 0 = if j < i then l0.getD j 0 else 0) ∧ Aside0 (wr.ownsRow w.heap.size 3 1 (.slice (some ⟨w.heap.size, 0, none⟩) 16 16) 16 (nums .i64 xs)) ∧ Aside0 (Below w.heap.size w wr)) (fun v _ => 16 - (intOf v).toNat)
  case atStart =>
    refine ⟨0, List.replicate 16 0, by omega, by omega, rfl, ⟨by simp⟩, ⟨fun j hj => by rw [if_neg (by omega), List.getD_eq_getElem?_getD, List.getElem?_replicate, if_pos hj]; rfl⟩, ⟨?_⟩, ⟨by repeat (first | exact Below.refl _ _ | apply below_alloc | apply pw_below_drewN)⟩⟩
    exact own_made w w.heap.size 3 .i64 16 (Nat.le_refl _) (by omega)
  case round =>
    obtain ⟨i, xs, hi, him, rfl, HX, HJ, HO, HB⟩ := hrel
    by_cases hlt : i < 16 ∧ i < m
    · obtain ⟨hlt, hltm⟩ := hlt
      obtain ⟨ad, rfl, hcs⟩ := sp_ad HC.out (by omega)
      have hcell := sp_cell (Kd.C_below HC.out HB.out) i hltm
      obtain ⟨⟨y, hy⟩, hfr⟩ := own_free HO.out i hlt
      obtain ⟨x, hx⟩ : ∃ x, l0.getD i 0 = x := ⟨_, rfl⟩
      rw [hx] at hcell
      have HXV := Aside0.mk hx
      clear hx hcs
      go_wp2
      go_roundw
      case rel =>
        have hst := own_store HO.out (i : Int) x
        rw [Int.toNat_natCast] at hst
        refine ⟨i + 1, _, by omega, by omega, by go_num, ⟨by rw [List.length_set, HX.out]⟩, ⟨?_⟩, ⟨hst.1⟩, ⟨Below.grown HB.out hst.2 HB.out.size (fun k hk => by injection hk with hk; omega)⟩⟩
        intro j hj
        by_cases e : j = i
        · subst e
          rw [if_pos (by omega), HXV.out, List.getD_eq_getElem?_getD, List.getElem?_set_self (by rw [HX.out]; exact hlt)]; rfl
        · have := HJ.out j hj
          rw [List.getD_eq_getElem?_getD] at this ⊢
          rw [List.getElem?_set_ne (fun h => e h.symm), this]
          by_cases h2 : j < i
          · rw [if_pos h2, if_pos (by omega)]
          · rw [if_neg h2, if_neg (by omega)]
      case measure => simp [intOf]; omega
    · have HU : Aside0 (xs = sizedL 16 l0) := ⟨by
        refine row_ext (by rw [HX.out, sizedL_length]) (fun j hj => ?_)
        rw [HX.out] at hj
        rw [HJ.out j hj, sizedL_getD _ _ _ hj]
        split
        · rfl
        · rw [List.getD_eq_getElem?_getD, List.getElem?_eq_none (by rw [HL.out]; omega)]; rfl⟩
      have hex : i = 16 ∨ i < 16 ∧ m = i := by omega
      clear hlt
      rcases hex with rfl | ⟨h1, rfl⟩
      all_goals
        go_wp2
        go_ret
        refine ⟨_, rfl, ?_, HB.out⟩
        rw [← HU.out]
        exact Kd.R_of_own (enc := Value.int .i64) (h1 := fun _ => rfl) (ok := fun _ => True) (xs := xs) (by rw [HX.out]; exact HO.out) (fun _ _ => trivial)
set_option maxHeartbeats 8000000 in
theorem sized_4 (A0 : Option Addr) (m c0 : Nat) (l0 : List Int) (a1 : Int) (w : World) (hl : l0.length = m) (hr0 : Kd.C (Kd.int .i64) w A0 m l0) (hm : m ≤ 4000000000000000000) (he : a1 % 6 = 4) :
    Calls Tryd.prog 25 #[.slice A0 m c0, .int .i64 a1] w fun e w' => ∃ v0_ : Value, e = .returned v0_ ∧ Kd.R (Kd.int .i64) 3 w' w.heap.size (fun _ => True) v0_ (sizedL 32 l0) ∧ Below w.heap.size w w' := by
  obtain ⟨q1, q2, q3⟩ := size_rem he
  have hmk := print_make 22 3 .i64 8 Tryd.underlying22 turn_info (by decide) 32 (by omega)
  simp only [Int.cast_ofNat_Int] at hmk
  have HC := Aside0.mk hr0
  have HL := Aside0.mk hl
  clear hl hr0 he
  go_enter Tryd.func25, Tryd.ntmps25
  go_wp2
  go_loopw [6] (fun v wr => ∃ (i : Nat) (xs : List Int), i ≤ 32 ∧ i ≤ m ∧ v = .int .i64 (i : Int) ∧ Aside0 (xs.length = 32) ∧ Aside0 (∀ j, j < 32 → xs.getD j 0 = if j < i then l0.getD j 0 else 0) ∧ Aside0 (wr.ownsRow w.heap.size 3 1 (.slice (some ⟨w.heap.size, 0, none⟩) 32 32) 32 (nums .i64 xs)) ∧ Aside0 (Below w.heap.size w wr)) (fun v _ => 32 - (intOf v).toNat)
  case atStart =>
    refine ⟨0, List.replicate 32 0, by omega, by omega, rfl, ⟨by simp⟩, ⟨fun j hj => by rw [if_neg (by omega), List.getD_eq_getElem?_getD, List.getElem?_replicate, if_pos hj]; rfl⟩, ⟨?_⟩, ⟨by repeat (first | exact Below.refl _ _ | apply below_alloc | apply pw_below_drewN)⟩⟩
    exact own_made w w.heap.size 3 .i64 32 (Nat.le_refl _) (by omega)
  case round =>
    obtain ⟨i, xs, hi, him, rfl, HX, HJ, HO, HB⟩ := hrel
    by_cases hlt : i < 32 ∧ i < m
    · obtain ⟨hlt, hltm⟩ := hlt
      obtain ⟨ad, rfl, hcs⟩ := sp_ad HC.out (by omega)
      have hcell := sp_cell (Kd.C_below HC.out HB.out) i hltm
      obtain ⟨⟨y, hy⟩, hfr⟩ := own_free HO.out i hlt
      obtain ⟨x, hx⟩ : ∃ x, l0.getD i 0 = x := ⟨_, rfl⟩
      rw [hx] at hcell
      have HXV := Aside0.mk hx
      clear hx hcs
      go_wp2
      go_roundw
      case rel =>
        have hst := own_store HO.out (i : Int) x
        rw [Int.toNat_natCast] at hst
        refine ⟨i + 1, _, by omega, by omega, by go_num, ⟨by rw [List.length_set, HX.out]⟩, ⟨?_⟩, ⟨hst.1⟩, ⟨Below.grown HB.out hst.2 HB.out.size (fun k hk => by injection hk with hk; omega)⟩⟩
        intro j hj
        by_cases e : j = i
        · subst e
          rw [if_pos (by omega), HXV.out, List.getD_eq_getElem?_getD, List.getElem?_set_self (by rw [HX.out]; exact hlt)]; rfl
        · have := HJ.out j hj
          rw [List.getD_eq_getElem?_getD] at this ⊢
          rw [List.getElem?_set_ne (fun h => e h.symm), this]
          by_cases h2 : j < i
          · rw [if_pos h2, if_pos (by omega)]
          · rw [if_neg h2, if_neg (by omega)]
      case measure => simp [intOf]; omega
    · have HU : Aside0 (xs = sizedL 32 l0) := ⟨by
        refine row_ext (by rw [HX.out, sizedL_length]) (fun j hj => ?_)
        rw [HX.out] at hj
        rw [HJ.out j hj, sizedL_getD _ _ _ hj]
        split
        · rfl
        · rw [List.getD_eq_getElem?_getD, List.getElem?_eq_none (by rw [HL.out]; omega)]; rfl⟩
      have hex : i = 32 ∨ i < 32 ∧ m = i := by omega
      clear hlt
      rcases hex with rfl | ⟨h1, rfl⟩
      all_goals
        go_wp2
        go_ret
        refine ⟨_, rfl, ?_, HB.out⟩
        rw [← HU.out]
        exact Kd.R_of_own (enc := Value.int .i64) (h1 := fun _ => rfl) (ok := fun _ => True) (xs := xs) (by rw [HX.out]; exact HO.out) (fun _ _ => trivial)
set_option maxHeartbeats 8000000 in
theorem sized_5 (A0 : Option Addr) (m c0 : Nat) (l0 : List Int) (a1 : Int) (w : World) (hl : l0.length = m) (hr0 : Kd.C (Kd.int .i64) w A0 m l0) (hm : m ≤ 4000000000000000000) (he : a1 % 6 = 5) :
    Calls Tryd.prog 25 #[.slice A0 m c0, .int .i64 a1] w fun e w' => ∃ v0_ : Value, e = .returned v0_ ∧ Kd.R (Kd.int .i64) 3 w' w.heap.size (fun _ => True) v0_ (sizedL 64 l0) ∧ Below w.heap.size w w' := by
  obtain ⟨q1, q2, q3⟩ := size_rem he
  have hmk := print_make 22 3 .i64 8 Tryd.underlying22 turn_info (by decide) 64 (by omega)
  simp only [Int.cast_ofNat_Int] at hmk
  have HC := Aside0.mk hr0
  have HL := Aside0.mk hl
  clear hl hr0 he
  go_enter Tryd.func25, Tryd.ntmps25
  go_wp2
  go_loopw [6] (fun v wr => ∃ (i : Nat) (xs : List Int), i ≤ 64 ∧ i ≤ m ∧ v = .int .i64 (i : Int) ∧ Aside0 (xs.length = 64) ∧ Aside0 (∀ j, j < 64 → xs.getD j 0 = if j < i then l0.getD j 0 else 0) ∧ Aside0 (wr.ownsRow w.heap.size 3 1 (.slice (some ⟨w.heap.size, 0, none⟩) 64 64) 64 (nums .i64 xs)) ∧ Aside0 (Below w.heap.size w wr)) (fun v _ => 64 - (intOf v).toNat)
  case atStart =>
    refine ⟨0, List.replicate 64 0, by omega, by omega, rfl, ⟨by simp⟩, ⟨fun j hj => by rw [if_neg (by omega), List.getD_eq_getElem?_getD, List.getElem?_replicate, if_pos hj]; rfl⟩, ⟨?_⟩, ⟨by repeat (first | exact Below.refl _ _ | apply below_alloc | apply pw_below_drewN)⟩⟩
    exact own_made w w.heap.size 3 .i64 64 (Nat.le_refl _) (by omega)
  case round =>
    obtain ⟨i, xs, hi, him, rfl, HX, HJ, HO, HB⟩ := hrel
    by_cases hlt : i < 64 ∧ i < m
    · obtain ⟨hlt, hltm⟩ := hlt
      obtain ⟨ad, rfl, hcs⟩ := sp_ad HC.out (by omega)
      have hcell := sp_cell (Kd.C_below HC.out HB.out) i hltm
      obtain ⟨⟨y, hy⟩, hfr⟩ := own_free HO.out i hlt
      obtain ⟨x, hx⟩ : ∃ x, l0.getD i 0 = x := ⟨_, rfl⟩
      rw [hx] at hcell
      have HXV := Aside0.mk hx
      clear hx hcs
      go_wp2
      go_roundw
      case rel =>
        have hst := own_store HO.out (i : Int) x
        rw [Int.toNat_natCast] at hst
        refine ⟨i + 1, _, by omega, by omega, by go_num, ⟨by rw [List.length_set, HX.out]⟩, ⟨?_⟩, ⟨hst.1⟩, ⟨Below.grown HB.out hst.2 HB.out.size (fun k hk => by injection hk with hk; omega)⟩⟩
        intro j hj
        by_cases e : j = i
        · subst e
          rw [if_pos (by omega), HXV.out, List.getD_eq_getElem?_getD, List.getElem?_set_self (by rw [HX.out]; exact hlt)]; rfl
        · have := HJ.out j hj
          rw [List.getD_eq_getElem?_getD] at this ⊢
          rw [List.getElem?_set_ne (fun h => e h.symm), this]
          by_cases h2 : j < i
          · rw [if_pos h2, if_pos (by omega)]
          · rw [if_neg h2, if_neg (by omega)]
      case measure => simp [intOf]; omega
    · have HU : Aside0 (xs = sizedL 64 l0) := ⟨by
        refine row_ext (by rw [HX.out, sizedL_length]) (fun j hj => ?_)
        rw [HX.out] at hj
        rw [HJ.out j hj, sizedL_getD _ _ _ hj]
        split
        · rfl
        · rw [List.getD_eq_getElem?_getD, List.getElem?_eq_none (by rw [HL.out]; omega)]; rfl⟩
      have hex : i = 64 ∨ i < 64 ∧ m = i := by omega
      clear hlt
      rcases hex with rfl | ⟨h1, rfl⟩
      all_goals
        go_wp2
        go_ret
        refine ⟨_, rfl, ?_, HB.out⟩
        rw [← HU.out]
        exact Kd.R_of_own (enc := Value.int .i64) (h1 := fun _ => rfl) (ok := fun _ => True) (xs := xs) (by rw [HX.out]; exact HO.out) (fun _ _ => trivial)
theorem earshotlaw10_sized.calls (A0 : Option Addr) (c0 : Nat) (l0 : List Int) (a1 : Int) (r : List Int) (w : World) (hr0 : Kd.C (Kd.int .i64) w A0 l0.length l0) (hc0 : l0.length ≤ c0) (h : earshotlaw10_sized.f l0 a1 = some r) :
    Calls Tryd.prog 25 #[.slice A0 l0.length c0, .int .i64 a1] w fun e w' => ∃ v0_ : Value, e = .returned v0_ ∧ Kd.R (Kd.int .i64) 3 w' w.heap.size (fun _ => True) v0_ r ∧ Below w.heap.size w w' := by
  unfold earshotlaw10_sized.f at h
  split at h
  case isFalse => cases h
  rename_i hz
  obtain rfl := Option.some.inj h
  simp only [decide_eq_true_eq] at hz
  have m0 := Int.emod_nonneg a1 (show (6 : Int) ≠ 0 by decide)
  have m1 := Int.emod_lt_of_pos a1 (show (0 : Int) < 6 by decide)
  have hc : a1 % 6 = 0 ∨ a1 % 6 = 1 ∨ a1 % 6 = 2 ∨ a1 % 6 = 3 ∨ a1 % 6 = 4 ∨ a1 % 6 = 5 := by omega
  rcases hc with he | he | he | he | he | he
  · have hs : sizeOf_ a1 = 2 := by unfold sizeOf_; rw [he]; rfl
    rw [hs]
    exact sized_0 A0 _ c0 l0 a1 w rfl hr0 hz he
  · have hs : sizeOf_ a1 = 4 := by unfold sizeOf_; rw [he]; rfl
    rw [hs]
    exact sized_1 A0 _ c0 l0 a1 w rfl hr0 hz he
  · have hs : sizeOf_ a1 = 8 := by unfold sizeOf_; rw [he]; rfl
    rw [hs]
    exact sized_2 A0 _ c0 l0 a1 w rfl hr0 hz he
  · have hs : sizeOf_ a1 = 16 := by unfold sizeOf_; rw [he]; rfl
    rw [hs]
    exact sized_3 A0 _ c0 l0 a1 w rfl hr0 hz he
  · have hs : sizeOf_ a1 = 32 := by unfold sizeOf_; rw [he]; rfl
    rw [hs]
    exact sized_4 A0 _ c0 l0 a1 w rfl hr0 hz he
  · have hs : sizeOf_ a1 = 64 := by unfold sizeOf_; rw [he]; rfl
    rw [hs]
    exact sized_5 A0 _ c0 l0 a1 w rfl hr0 hz he

/-! ### fft_Sum: function 28 -/
/-! ### What fft.Spins computes: sums of samples, turned -/
def psi (H : Nat) (z : Int) : Int := if z % (2 * (H : Int)) = 0 then 1 else if z % (2 * (H : Int)) = (H : Int) then -1 else 0
theorem psi_mod {H : Nat} {x y : Int} (h : x % (2 * (H : Int)) = y % (2 * (H : Int))) : psi H x = psi H y := by unfold psi; rw [h]
theorem psi_half {H : Nat} (hH : 0 < H) (z : Int) : psi H (z + H) = -psi H z := by
  have r0 := Int.emod_nonneg z (show 2 * (H : Int) ≠ 0 by omega)
  have r1 := Int.emod_lt_of_pos z (show 0 < 2 * (H : Int) by omega)
  unfold psi
  rw [add_half H hH z]
  generalize z % (2 * (H : Int)) = r at *
  by_cases h1 : r < H
  · rw [if_pos h1]
    by_cases h2 : r = 0
    · rw [if_neg (by omega), if_pos (by omega), if_pos h2]
    · rw [if_neg (by omega), if_neg (by omega), if_neg h2, if_neg (by omega)]; rfl
  · rw [if_neg h1]
    by_cases h2 : r = H
    · rw [if_pos (by omega), if_neg (by omega), if_pos h2]; rfl
    · rw [if_neg (by omega), if_neg (by omega), if_neg (by omega), if_neg h2]; rfl
/-- Entry j of the row that sums x_i, i below n, each turned by p i. -/
def psS (H : Nat) (x : Nat → Int) (p : Nat → Int) (n : Nat) (j : Int) : Int := S n (fun i => x i * psi H (j - p i))
def psRow (H : Nat) (x : Nat → Int) (p : Nat → Int) (n : Nat) : List Int := (List.range H).map fun j : Nat => wrap64 (psS H x p n (j : Int))
theorem psRow_length (H : Nat) (x : Nat → Int) (p : Nat → Int) (n : Nat) : (psRow H x p n).length = H := by simp [psRow]
theorem psRow_getD (H : Nat) (x : Nat → Int) (p : Nat → Int) (n j : Nat) (hj : j < H) : (psRow H x p n).getD j 0 = wrap64 (psS H x p n (j : Int)) := getD_map_range H (fun j : Nat => wrap64 (psS H x p n (j : Int))) j hj
theorem psRow_in (H : Nat) (x : Nat → Int) (p : Nat → Int) (n : Nat) : In64 (psRow H x p n) := by
  intro y hy
  simp only [psRow, List.mem_map] at hy
  obtain ⟨j, _, rfl⟩ := hy
  exact ⟨W_lo _, W_hi _⟩
theorem psS_half {H : Nat} (hH : 0 < H) (x : Nat → Int) (p : Nat → Int) (n : Nat) (z : Int) : psS H x p n (z + H) = -psS H x p n z := by
  unfold psS
  rw [← S_neg]
  refine S_congr (fun i _ => ?_)
  rw [show z + (H : Int) - p i = z - p i + H by omega, psi_half hH, Int.mul_neg]
theorem psS_mod {H : Nat} (x : Nat → Int) (p : Nat → Int) (n : Nat) {y z : Int} (h : y % (2 * (H : Int)) = z % (2 * (H : Int))) : psS H x p n y = psS H x p n z := by
  unfold psS
  refine S_congr (fun i _ => ?_)
  congr 1
  exact psi_mod (by rw [Int.sub_emod, h, ← Int.sub_emod])
/-- The row's number at any place. -/
theorem ext_ps {H : Nat} (hH : 0 < H) (x : Nat → Int) (p : Nat → Int) (n : Nat) (z : Int) : ext (psRow H x p n) z = wrap64 (psS H x p n z) := by
  have r0 := Int.emod_nonneg z (show 2 * (H : Int) ≠ 0 by omega)
  have r1 := Int.emod_lt_of_pos z (show 0 < 2 * (H : Int) by omega)
  have hz : psS H x p n z = psS H x p n (z % (2 * (H : Int))) := psS_mod x p n (by rw [Int.emod_emod_of_dvd _ (Int.dvd_refl _)])
  unfold ext
  rw [psRow_length, hz]
  generalize z % (2 * (H : Int)) = r at *
  by_cases h : r.toNat < H
  · rw [if_pos h, psRow_getD _ _ _ _ _ h, Int.toNat_of_nonneg r0]
  · rw [if_neg h, psRow_getD _ _ _ _ _ (by omega), W_neg_W]
    have e : (((r.toNat - H : Nat)) : Int) + H = r := by omega
    rw [← psS_half hH, e]
theorem turn_ps {H : Nat} (hH : 0 < H) (x : Nat → Int) (p : Nat → Int) (n : Nat) (k : Int) : turnL (psRow H x p n) k = psRow H x (fun i => p i + k) n := by
  refine row_ext (by rw [turnL_length, psRow_length, psRow_length]) (fun j hj => ?_)
  rw [turnL_length, psRow_length] at hj
  rw [turnL_getD _ _ _ (by rw [psRow_length]; exact hj), ext_ps hH, psRow_getD _ _ _ _ _ hj]
  congr 1
  exact S_congr (fun i _ => by show _ = x i * psi H ((j : Int) - (p i + k)); rw [show (j : Int) - k - p i = (j : Int) - (p i + k) by omega])
theorem psRow_congr {H n : Nat} {x y : Nat → Int} {p q : Nat → Int} (h : ∀ i (j : Int), i < n → x i * psi H (j - p i) = y i * psi H (j - q i)) : psRow H x p n = psRow H y q n := by
  unfold psRow
  congr 1
  funext j
  congr 1
  exact S_congr (fun i hi => h i _ hi)
theorem psi_back {H : Nat} (hH : 0 < H) (z : Int) : psi H (z - H) = -psi H z := by
  have := psi_half hH (z - H)
  rw [show z - (H : Int) + H = z by omega] at this
  omega
theorem psi_per {H : Nat} (z : Int) (q : Nat) : psi H (z - ((q * (2 * H) : Nat) : Int)) = psi H z := by
  refine psi_mod ?_
  rw [show z - ((q * (2 * H) : Nat) : Int) = z + 2 * (H : Int) * (-(q : Int)) by rw [Int.natCast_mul, Int.natCast_mul, Int.mul_neg, Int.mul_comm (q : Int)]; rfl, Int.add_mul_emod_self_left]
/-- The samples from 'fr' on, step by step, and how far each one is turned for row k. -/
def xOf (xs : List Int) (fr st : Nat) (i : Nat) : Int := xs.getD (fr + i * st) 0
def pOf (st k : Nat) (i : Nat) : Int := (k : Int) * ((i * st : Nat) : Int)
theorem ps_split (xs : List Int) (H fr st M k : Nat) (hH : 0 < H) (hM : st * M = H) (j : Int) :
    psS H (xOf xs fr st) (pOf st k) (2 * M) j = psS H (xOf xs fr (2 * st)) (pOf (2 * st) k) M j + psS H (xOf xs (fr + st) (2 * st)) (fun i => pOf (2 * st) k i + (k : Int) * (st : Int)) M j ∧
    psS H (xOf xs fr st) (pOf st (k + M)) (2 * M) j = psS H (xOf xs fr (2 * st)) (pOf (2 * st) k) M j - psS H (xOf xs (fr + st) (2 * st)) (fun i => pOf (2 * st) k i + (k : Int) * (st : Int)) M j := by
  have q1 : ∀ i : Nat, 2 * i * st = i * (2 * st) := fun i => by rw [Nat.mul_comm 2 i, Nat.mul_assoc]
  have q2 : ∀ i : Nat, (2 * i + 1) * st = i * (2 * st) + st := fun i => by rw [Nat.add_mul, Nat.one_mul, q1]
  have q3 : ∀ i : Nat, M * (i * (2 * st)) = i * (2 * H) := fun i => by rw [← hM, Nat.mul_left_comm, Nat.mul_left_comm M 2 st, Nat.mul_comm M st]
  have x1 : ∀ i : Nat, xOf xs fr st (2 * i) = xOf xs fr (2 * st) i := fun i => by unfold xOf; rw [q1]
  have x2 : ∀ i : Nat, xOf xs fr st (2 * i + 1) = xOf xs (fr + st) (2 * st) i := fun i => by unfold xOf; rw [q2]; congr 1; omega
  have p1 : ∀ i : Nat, pOf st k (2 * i) = pOf (2 * st) k i := fun i => by unfold pOf; rw [q1]
  have p2 : ∀ i : Nat, pOf st k (2 * i + 1) = pOf (2 * st) k i + (k : Int) * (st : Int) := fun i => by unfold pOf; rw [q2, Int.natCast_add, Int.mul_add]
  have p3 : ∀ i : Nat, pOf st (k + M) (2 * i) = pOf (2 * st) k i + ((i * (2 * H) : Nat) : Int) := fun i => by
    unfold pOf; rw [q1, Int.natCast_add, Int.add_mul, ← Int.natCast_mul M, q3]
  have p4 : ∀ i : Nat, pOf st (k + M) (2 * i + 1) = pOf (2 * st) k i + (k : Int) * (st : Int) + (H : Int) + ((i * (2 * H) : Nat) : Int) := fun i => by
    unfold pOf; rw [q2, Int.natCast_add k M, Int.add_mul, Int.natCast_add, Int.mul_add, Int.mul_add, ← Int.natCast_mul M, ← Int.natCast_mul M, q3, Nat.mul_comm M st, hM]; omega
  constructor
  · unfold psS
    rw [S_evenodd]
    congr 1
    · exact S_congr (fun i _ => by rw [x1, p1])
    · exact S_congr (fun i _ => by rw [x2, p2])
  · unfold psS
    rw [S_evenodd]
    rw [Int.sub_eq_add_neg, ← S_neg]
    congr 1
    · exact S_congr (fun i _ => by rw [x1, p3, show j - (pOf (2 * st) k i + ((i * (2 * H) : Nat) : Int)) = j - pOf (2 * st) k i - ((i * (2 * H) : Nat) : Int) by omega, psi_per])
    · refine S_congr (fun i _ => ?_)
      rw [x2, p4, show j - (pOf (2 * st) k i + (k : Int) * (st : Int) + (H : Int) + ((i * (2 * H) : Nat) : Int)) = j - (pOf (2 * st) k i + (k : Int) * (st : Int)) - (H : Int) - ((i * (2 * H) : Nat) : Int) by omega, psi_per, psi_back hH, Int.mul_neg]
theorem halves_ps (xs : List Int) (hin : In64 xs) (H : Nat) (hH : 0 < H) : ∀ e fr st k, k < 2 ^ e → st * 2 ^ e = 2 * H →
    (halvesL xs H e fr st).getD k [] = psRow H (xOf xs fr st) (pOf st k) (2 ^ e)
  | 0, fr, st, k, hk, hst => by
    obtain rfl : k = 0 := by simpa using hk
    show (List.replicate H (0 : Int)).set 0 (xs.getD fr 0) = _
    refine row_ext (by rw [psRow_length]; simp) (fun j hj => ?_)
    have hj' : j < H := by simpa using hj
    rw [psRow_getD _ _ _ _ _ hj']
    show _ = wrap64 (0 + xOf xs fr st 0 * psi H ((j : Int) - pOf st 0 0))
    have hp : pOf st 0 0 = 0 := by simp [pOf]
    have hx0 : xOf xs fr st 0 = xs.getD fr 0 := by simp [xOf]
    rw [hp, hx0, Int.zero_add, Int.sub_zero]
    by_cases h0 : j = 0
    · subst h0
      rw [List.getD_eq_getElem?_getD, List.getElem?_set_self (by simpa using hH)]
      have : psi H ((0 : Nat) : Int) = 1 := by unfold psi; rw [if_pos (by simp)]
      rw [this, Int.mul_one, hin.getD]; rfl
    · rw [List.getD_eq_getElem?_getD, List.getElem?_set_ne (fun h => h0 h.symm), List.getElem?_replicate, if_pos hj']
      have : psi H (j : Int) = 0 := by
        unfold psi
        rw [Int.emod_eq_of_lt (by omega) (by omega), if_neg (by omega), if_neg (by omega)]
      rw [this, Int.mul_zero]; exact (W_in (a := 0) (by decide) (by decide)).symm
  | e + 1, fr, st, k, hk, hst => by
    have hst2 : 2 * st * 2 ^ e = 2 * H := by rw [← hst, Nat.pow_succ, Nat.mul_comm 2 st, Nat.mul_assoc, Nat.mul_comm 2]
    have hstH : st * 2 ^ e = H := by rw [Nat.mul_assoc] at hst2; omega
    have ih1 := halves_ps xs hin H hH e fr (2 * st)
    have ih2 := halves_ps xs hin H hH e (fr + st) (2 * st)
    have hp2 : 2 ^ (e + 1) = 2 * 2 ^ e := by rw [Nat.pow_succ, Nat.mul_comm]
    rcases Nat.lt_or_ge k (2 ^ e) with h | h
    · rw [halvesL_low _ _ _ _ _ _ h, ih1 k h hst2, ih2 k h hst2, turn_ps hH, hp2]
      refine row_ext (by rw [addL_length (by rw [psRow_length, psRow_length]), psRow_length, psRow_length]) (fun j hj => ?_)
      rw [addL_length (by rw [psRow_length, psRow_length]), psRow_length] at hj
      rw [addL_getD (by rw [psRow_length, psRow_length]) j (by rw [psRow_length]; exact hj), psRow_getD _ _ _ _ _ hj, psRow_getD _ _ _ _ _ hj, psRow_getD _ _ _ _ _ hj, W_W_add, W_add_W, (ps_split xs H fr st (2 ^ e) k hH hstH (j : Int)).1]
    · obtain ⟨m, rfl⟩ : ∃ m, k = m + 2 ^ e := ⟨k - 2 ^ e, by omega⟩
      have hm : m < 2 ^ e := by omega
      rw [halvesL_high _ _ _ _ _ _ hm, ih1 m hm hst2, ih2 m hm hst2, turn_ps hH, hp2]
      refine row_ext (by rw [lessL_length (by rw [psRow_length, psRow_length]), psRow_length, psRow_length]) (fun j hj => ?_)
      rw [lessL_length (by rw [psRow_length, psRow_length]), psRow_length] at hj
      rw [lessL_getD (by rw [psRow_length, psRow_length]) j (by rw [psRow_length]; exact hj), psRow_getD _ _ _ _ _ hj, psRow_getD _ _ _ _ _ hj, psRow_getD _ _ _ _ _ hj, W_W_sub, W_sub_W, (ps_split xs H fr st (2 ^ e) m hH hstH (j : Int)).2]
/-- The k-th spin of samples. -/
theorem spins_row (l : List Int) (hin : In64 l) (hm : fftMay l.length = true) (k : Nat) (hk : k < l.length) : (spinsF l).getD k [] = psRow (l.length / 2) (fun i => l.getD i 0) (fun i => (k : Int) * (i : Int)) l.length := by
  have hH : 0 < l.length / 2 ∧ 2 * (l.length / 2) = l.length := by rcases fftMay_cases hm with h | h | h | h | h | h <;> omega
  unfold spinsF
  rw [if_pos hm, halves_ps l hin (l.length / 2) hH.1 (logOf l.length) 0 1 k (by rw [logOf_pow hm]; exact hk) (by rw [logOf_pow hm, hH.2]; omega), logOf_pow hm]
  refine psRow_congr (fun i j _ => ?_)
  unfold xOf pOf
  rw [Nat.mul_one, Nat.zero_add]
theorem spins_len (l : List Int) (hm : fftMay l.length = true) : (spinsF l).length = l.length := by unfold spinsF; rw [if_pos hm, halvesL_length, logOf_pow hm]

theorem ps_unit {H : Nat} (hH : 0 < H) (x : Int) (hx : wrap64 x = x) : (List.replicate H (0 : Int)).set 0 x = psRow H (fun _ => x) (fun _ => 0) 1 := by
  refine row_ext (by rw [psRow_length]; simp) (fun j hj => ?_)
  have hj' : j < H := by simpa using hj
  rw [psRow_getD _ _ _ _ _ hj']
  show _ = wrap64 (0 + x * psi H ((j : Int) - 0))
  rw [Int.zero_add, Int.sub_zero]
  by_cases h0 : j = 0
  · subst h0
    rw [List.getD_eq_getElem?_getD, List.getElem?_set_self (by simpa using hH)]
    have : psi H ((0 : Nat) : Int) = 1 := by unfold psi; rw [if_pos (by simp)]
    rw [this, Int.mul_one, hx]; rfl
  · rw [List.getD_eq_getElem?_getD, List.getElem?_set_ne (fun h => h0 h.symm), List.getElem?_replicate, if_pos hj']
    have : psi H (j : Int) = 0 := by
      unfold psi
      rw [Int.emod_eq_of_lt (by omega) (by omega), if_neg (by omega), if_neg (by omega)]
    rw [this, Int.mul_zero]; exact (W_in (a := 0) (by decide) (by decide)).symm
theorem ps_zero (H : Nat) (x : Nat → Int) (p : Nat → Int) : List.replicate H (0 : Int) = psRow H x p 0 := by
  refine row_ext (by rw [psRow_length]; simp) (fun j hj => ?_)
  have hj' : j < H := by simpa using hj
  rw [psRow_getD _ _ _ _ _ hj', List.getD_eq_getElem?_getD, List.getElem?_replicate, if_pos hj']
  exact (W_in (a := 0) (by decide) (by decide)).symm
theorem ps_step {H : Nat} (hH : 0 < H) (x : Nat → Int) (p : Nat → Int) (t : Nat) (hx : wrap64 (x t) = x t) : addL (psRow H x p t) (turnL ((List.replicate H (0 : Int)).set 0 (x t)) (p t)) = psRow H x p (t + 1) := by
  rw [ps_unit hH (x t) hx, turn_ps hH]
  have e : (psRow H x p t).length = (psRow H (fun _ => x t) (fun i => (fun _ => (0 : Int)) i + p t) 1).length := by rw [psRow_length, psRow_length]
  refine row_ext (by rw [addL_length e, psRow_length, psRow_length]) (fun j hj => ?_)
  rw [addL_length e, psRow_length] at hj
  rw [addL_getD e j (by rw [psRow_length]; exact hj), psRow_getD _ _ _ _ _ hj, psRow_getD _ _ _ _ _ hj, psRow_getD _ _ _ _ _ hj, W_W_add, W_add_W]
  congr 1
  show psS H x p t j + (0 + x t * psi H ((j : Int) - (0 + p t))) = _
  rw [Int.zero_add, Int.zero_add]
  rfl
/-- The spin that samples have at k. -/
def spinAt (l : List Int) (k : Int) : List Int := psRow (l.length / 2) (fun i => l.getD i 0) (fun i => k % (l.length : Int) * (i : Int)) l.length
theorem spinAt_length (l : List Int) (k : Int) : (spinAt l k).length = l.length / 2 := psRow_length _ _ _ _
theorem spinAt_row (l : List Int) (hin : In64 l) (hm : fftMay l.length = true) (k : Nat) (hk : k < l.length) : (spinsF l).getD k [] = spinAt l (k : Int) := by
  rw [spins_row l hin hm k hk]
  unfold spinAt
  rw [Int.emod_eq_of_lt (by omega) (by omega)]
theorem spinAt_mod (l : List Int) (k : Int) : spinAt l (k % (l.length : Int)) = spinAt l k := by
  unfold spinAt
  rw [Int.emod_emod_of_dvd _ (Int.dvd_refl _)]
/-- What fft.Sum tells. -/
def sumF (k : Int) (l : List Int) : List Int := if fftMay l.length = true then spinAt l k else []

def fft_Sum.f (a0 : Int) (l1 : List Int) : Option (List Int) := if decide (l1.length ≤ 1000000) && l1.all (fun x => decide (-9223372036854775808 ≤ x) && decide (x ≤ 9223372036854775807)) && decide (-9223372036854775808 ≤ a0) && decide (a0 ≤ 9223372036854775807) then some (sumF a0 l1) else none
set_option maxHeartbeats 16000000 in
theorem sum_r (k : Int) (N H c : Nat) (A : Option Addr) (l : List Int) (w : World) (hl : l.length = N) (hC : (Kd.int .i64).C w A N l) (hin : In64 l) (hm : fftMay N = true) (hHN : N / 2 = H) (k0 : -9223372036854775808 ≤ k) (k1 : k ≤ 9223372036854775807) :
    Calls Tryd.prog 28 #[.int .i64 k, .slice A N c] w fun e w' => ∃ v0_ : Value, e = .returned v0_ ∧ Kd.R (Kd.int .i64) 3 w' w.heap.size (fun _ => True) v0_ (spinAt l k) ∧ Below w.heap.size w w' := by
  have hN64 : 2 ≤ N ∧ N ≤ 64 := by rcases fftMay_cases hm with rfl | rfl | rfl | rfl | rfl | rfl <;> omega
  have HMY := Aside0.mk (by rw [fft_may_f, hm] : fft_may.f (N : Int) = some true)
  obtain ⟨r, hr⟩ := Int.eq_ofNat_of_zero_le (Int.emod_nonneg k (show (N : Int) ≠ 0 by omega))
  have hrN : r < N := by have := Int.emod_lt_of_pos k (show (0 : Int) < (N : Int) by omega); omega
  have HPT := Aside0.mk (by rw [prt_some ⟨k0, k1⟩ (by omega) (by omega), hr] : round_Parts.f k (N : Int) = some (k / (N : Int), (r : Int)))
  have HROW : Aside0 ((spinsF l).getD r [] = spinAt l k) := ⟨by rw [spinAt_row l hin (by rw [hl]; exact hm) r (by omega), ← spinAt_mod l k, hl, hr]⟩
  have HLEN : Aside0 ((spinAt l k).length = H) := ⟨by rw [spinAt_length, hl, hHN]⟩
  have HSL : Aside0 ((spinsF l).length = N) := ⟨by rw [spins_len l (by rw [hl]; exact hm), hl]⟩
  have HSP : Aside0 (∀ W : World, (Kd.int .i64).C W A N l → Calls Tryd.prog 26 #[.slice A N c] W fun e w' => ∃ v0_ : Value, e = .returned v0_ ∧ R2 w' W.heap.size (fun _ => True) v0_ (spinsF l) ∧ Below W.heap.size W w') := ⟨fun W hW => spins_go N c A l W hl hW hin (by omega)⟩
  have HC := Aside0.mk hC
  have j0 : (0 : Int) ≤ (r : Int) := by omega
  have j1 : (r : Int) < (N : Int) := by omega
  clear hl hC hin hm hHN hr k0 k1 hN64
  go_enter Tryd.func28, Tryd.ntmps28
  go_wp2_with (first
    | (go_at_call 45; (with_reducible refine (fft_may.calls _ _ _ HMY.out).mono ?_); rintro e w1 ⟨rfl, ⟨nd, rfl⟩⟩)
    | (go_at_call 32; (with_reducible refine (round_Parts.calls _ _ _ _ _ HPT.out).mono ?_); rintro e w2 ⟨rfl, ⟨nd2, rfl⟩⟩)
    | (go_at_call 26; refine (HSP.out _ (by repeat (first | exact HC.out | refine Kd.C_drewN ?_ _))).mono ?_; rintro e w3 ⟨vS, rfl, RS, BS⟩; obtain ⟨AS, cS, hvS, hcS, _⟩ := Kd.R_reads RS; rw [HSL.out] at hvS hcS; subst hvS; have HB := Aside0.mk (below_step (by repeat (first | exact Below.refl w.heap.size w | apply pw_below_drewN)) BS); obtain ⟨adS, B, dB, hAS, k5, lB, CB⟩ := R2_row RS r hrN; subst hAS; rw [HROW.out, HLEN.out] at k5 lB CB; have HCB := Aside0.mk (Kd.R_lower CB (show w.heap.size ≤ _ by simp)); clear RS BS CB hcS))
  go_ret
  exact ⟨_, rfl, HCB.out, HB.out⟩
theorem sum_go (k : Int) (N H c : Nat) (A : Option Addr) (l : List Int) (w : World) (hl : l.length = N) (hC : (Kd.int .i64).C w A N l) (hin : In64 l) (hm : fftMay N = true) (hHN : N / 2 = H) (k0 : -9223372036854775808 ≤ k) (k1 : k ≤ 9223372036854775807) :
    Calls Tryd.prog 28 #[.int .i64 k, .slice A N c] w fun e w' => ∃ B d, e = .returned (.slice B H d) ∧ H ≤ d ∧ Aside0 ((Kd.int .i64).C w' B H (spinAt l k)) ∧ Aside0 (Below w.heap.size w w') := by
  refine (sum_r k N H c A l w hl hC hin hm hHN k0 k1).mono ?_
  rintro e w' ⟨v, rfl, hR, hB⟩
  have hL : (spinAt l k).length = H := by rw [spinAt_length, hl, hHN]
  obtain ⟨B, d, rfl, h1, h2⟩ := Kd.R_reads hR
  rw [hL] at h1 h2 ⊢
  exact ⟨B, d, rfl, h1, ⟨h2⟩, ⟨hB⟩⟩
theorem sum_no (k : Int) (N c : Nat) (A : Option Addr) (w : World) (hm : fftMay N = false) (hN : N ≤ 1000000) :
    Calls Tryd.prog 28 #[.int .i64 k, .slice A N c] w fun e w' => ∃ v0_ : Value, e = .returned v0_ ∧ Kd.R (Kd.int .i64) 3 w' w.heap.size (fun _ => True) v0_ [] ∧ Below w.heap.size w w' := by
  have HMY := Aside0.mk (by rw [fft_may_f, hm] : fft_may.f (N : Int) = some false)
  clear hm
  go_enter Tryd.func28, Tryd.ntmps28
  go_wp2_with (go_at_call 45; (with_reducible refine (fft_may.calls _ _ _ HMY.out).mono ?_); rintro e w1 ⟨rfl, ⟨nd, rfl⟩⟩)
  go_ret
  exact ⟨_, rfl, Kd.R_nil _ _ _ _ _, by repeat (first | exact Below.refl _ _ | apply below_alloc | apply pw_below_drewN)⟩
theorem fft_Sum.calls (a0 : Int) (A1 : Option Addr) (c1 : Nat) (l1 : List Int) (r : List Int) (w : World) (hr1 : Kd.C (Kd.int .i64) w A1 l1.length l1) (hc1 : l1.length ≤ c1) (h : fft_Sum.f a0 l1 = some r) :
    Calls Tryd.prog 28 #[.int .i64 a0, .slice A1 l1.length c1] w fun e w' => ∃ v0_ : Value, e = .returned v0_ ∧ Kd.R (Kd.int .i64) 3 w' w.heap.size (fun _ => True) v0_ r ∧ Below w.heap.size w w' := by
  unfold fft_Sum.f at h
  split at h
  case isFalse => cases h
  rename_i hz
  obtain rfl := Option.some.inj h
  simp only [Bool.and_eq_true, decide_eq_true_eq, List.all_eq_true] at hz
  unfold sumF
  by_cases hm : fftMay l1.length = true
  · rw [if_pos hm]; exact sum_r a0 _ _ c1 A1 l1 w rfl hr1 (fun x hx => hz.1.1.2 x hx) hm rfl hz.1.2 hz.2
  · rw [if_neg hm]; exact sum_no a0 _ c1 A1 w (by simpa using hm) hz.1.1.1

end Go.Proofs.YtphmfecabbellaaDoor.PFftBlock
