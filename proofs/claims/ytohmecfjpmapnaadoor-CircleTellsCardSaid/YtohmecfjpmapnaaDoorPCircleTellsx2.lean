-- Written by a program of this work (wip/tools) for this claim; Lean checks it.
import Derived.Test.YtohmecfjpmapnaaDoorPCircleTellsx0
import Derived.Test.YtohmecfjpmapnaaDoorPCircleTellsx1
namespace Go.Proofs.YtohmecfjpmapnaaDoor.PCircleTells
open Go.RowKit Go.Proofs.YtohmecfjpmapnaaDoorW.PrintWords Go.Proofs.YtohmecfjpmapnaaDoorW.PrintLast Go.Proofs.YtohmecfjpmapnaaDoorW.PrintMore
attribute [local go_sem] max2_int min2_int max_two min_two max_three min_three max_four min_four   -- for this text's walks alone
set_option linter.unusedVariables false
set_option linter.unusedSimpArgs false

/-! ### earshotref02_Rest: function 22 -/
def earshotref02_Rest.f (a0 : Int) (a1 : Int) : Option (Int) := (earshotref02_Quot.f a0 a1).bind fun t116 => (some (wrap64 (a0 - (wrap64 (t116 * a1)))))
set_option maxHeartbeats 8000000 in
set_option maxRecDepth 100000 in
theorem earshotref02_Rest.calls (a0 : Int) (a1 : Int) (r : Int) (w : World) (h : earshotref02_Rest.f a0 a1 = some r) :
    Calls Tryd.prog 22 #[.int .i64 a0, .int .i64 a1] w fun e w' => e = .returned (.int .i64 r) ∧ Drawn0 w w' := by
  have H : ((earshotref02_Quot.f a0 a1).bind fun t116 => (some (wrap64 (a0 - (wrap64 (t116 * a1)))))) = some r := h
  clear h
  replace H := Option.bind_eq_some_iff.mp H
  obtain ⟨t116, A30, H⟩ := H
  replace H : (some (wrap64 (a0 - (wrap64 (t116 * a1))))) = some r := H
  have A3 := Aside0.mk A30
  clear A30
  obtain rfl := Option.some.inj H
  go_enter Tryd.func22, Tryd.ntmps22
  go_wp2_with (first | ((with_reducible refine gate_callee (f := 27) rfl ?_); refine goesL_ (some 8) rfl rfl Tryd.func27 (by kernel_rfl) rfl #[.int .i64 a0, .int .i64 a1] rfl (by (try simp only [List.map_toArray, List.map_cons, List.map_nil]); first | done | rfl | (simp only [List.length_drop, List.length_take]; rfl)) ?_; (with_reducible refine (earshotref02_Quot.calls a0 a1 t116 _ A3.out).mono ?_); rintro e w' ⟨rfl, ⟨nd, rfl⟩⟩; refine ⟨_, rfl, ?_⟩))
  go_ret
  exact ⟨by first | rfl | (simp; done) | (simp [*]; done), by repeat (first | exact Drawn0.refl _ | apply Drawn0.step)⟩

/-! ### earshotref04_Rest: function 13 -/
def earshotref04_Rest.f (a0 : Int) : Option (Int) := (earshotref02_Rest.f a0 64).bind fun t117 => (some t117)
set_option maxHeartbeats 8000000 in
set_option maxRecDepth 100000 in
theorem earshotref04_Rest.calls (a0 : Int) (r : Int) (w : World) (h : earshotref04_Rest.f a0 = some r) :
    Calls Tryd.prog 13 #[.int .i64 a0] w fun e w' => e = .returned (.int .i64 r) ∧ Drawn0 w w' := by
  have H : ((earshotref02_Rest.f a0 64).bind fun t117 => (some t117)) = some r := h
  clear h
  replace H := Option.bind_eq_some_iff.mp H
  obtain ⟨t117, A20, H⟩ := H
  replace H : (some t117) = some r := H
  have A2 := Aside0.mk A20
  clear A20
  obtain rfl := Option.some.inj H
  go_enter Tryd.func13, Tryd.ntmps13
  go_wp2_with (first | ((with_reducible refine gate_callee (f := 22) rfl ?_); refine goesL_ (some 4) rfl rfl Tryd.func22 (by kernel_rfl) rfl #[.int .i64 a0, .int .i64 64] rfl (by (try simp only [List.map_toArray, List.map_cons, List.map_nil]); first | done | rfl | (simp only [List.length_drop, List.length_take]; rfl)) ?_; (with_reducible refine (earshotref02_Rest.calls a0 64 t117 _ A2.out).mono ?_); rintro e w' ⟨rfl, ⟨nd, rfl⟩⟩; refine ⟨_, rfl, ?_⟩))
  go_ret
  exact ⟨by first | rfl | (simp; done) | (simp [*]; done), by repeat (first | exact Drawn0.refl _ | apply Drawn0.step)⟩

/-! ### earshotref04_quarter: function 23 -/
def qTab : List Int := [16384, 16305, 16069, 15679, 15137, 14449, 13623, 12665, 11585, 10394, 9102, 7723, 6270, 4756, 3196, 1606, 0]
def earshotref04_quarter.f (a0 : Int) : Option (Int) := if 0 ≤ a0 then (if a0 < 17 then (some (qTab.getD a0.toNat 0)) else (none)) else (none)
set_option maxHeartbeats 16000000 in
set_option maxRecDepth 100000 in
theorem earshotref04_quarter.calls (a0 : Int) (r : Int) (w : World) (h : earshotref04_quarter.f a0 = some r) :
    Calls Tryd.prog 23 #[.int .i64 a0] w fun e w' => e = .returned (.int .i64 r) ∧ Below w.heap.size w w' := by
  have h0 : 0 ≤ a0 := by
    unfold earshotref04_quarter.f at h
    split at h
    · assumption
    · cases h
  have h1 : a0 < 17 := by
    unfold earshotref04_quarter.f at h
    rw [if_pos h0] at h
    split at h
    · assumption
    · cases h
  have HR : Aside0 (qTab.getD a0.toNat 0 = r) := by
    unfold earshotref04_quarter.f at h
    rw [if_pos h0, if_pos h1] at h
    exact ⟨Option.some.inj h⟩
  clear h
  have hu := Tryd.underlying33
  obtain ⟨j, rfl⟩ := Int.eq_ofNat_of_zero_le h0
  have hj : j < 17 := by omega
  clear h0 h1
  have hcell : ∀ W : World, (W.alloc (.cells #[.int .i64 16384, .int .i64 16305, .int .i64 16069, .int .i64 15679, .int .i64 15137, .int .i64 14449, .int .i64 13623, .int .i64 12665, .int .i64 11585, .int .i64 10394, .int .i64 9102, .int .i64 7723, .int .i64 6270, .int .i64 4756, .int .i64 3196, .int .i64 1606, .int .i64 0] 33)).cell? ⟨W.heap.size, j, none⟩ = some (.int .i64 (qTab.getD j 0)) := by
    intro W
    have hb := heap_alloc_new W (.cells #[.int .i64 16384, .int .i64 16305, .int .i64 16069, .int .i64 15679, .int .i64 15137, .int .i64 14449, .int .i64 13623, .int .i64 12665, .int .i64 11585, .int .i64 10394, .int .i64 9102, .int .i64 7723, .int .i64 6270, .int .i64 4756, .int .i64 3196, .int .i64 1606, .int .i64 0] 33)
    simp only [World.cell?, hb]
    show ((qTab.map (Value.int .i64)).toArray)[j]? = _
    have hl : j < qTab.length := hj
    rw [List.getElem?_toArray, List.getElem?_map, List.getElem?_eq_getElem hl, List.getD_eq_getElem?_getD, List.getElem?_eq_getElem hl]
    rfl
  obtain ⟨v, hv⟩ : ∃ v, qTab.getD j 0 = v := ⟨_, rfl⟩
  rw [Int.toNat_natCast, hv] at HR
  rw [hv] at hcell
  clear hv
  have hj1 : (j : Int) < 17 := by omega
  go_enter Tryd.func23, Tryd.ntmps23
  go_wp2
  all_goals
    go_ret
    exact ⟨by rw [← HR.out]; rfl, by repeat (first | exact Below.refl _ _ | apply below_alloc | apply pw_below_drewN)⟩

/-! ### earshotref04_Cos: function 15 -/
def earshotref04_Cos.f : Nat → Int → Option (Int)
  | 0, _ => none
  | k + 1, a0 => (earshotref04_Rest.f a0).bind fun t118 => (if t118 ≤ 16 then ((earshotref04_quarter.f t118).bind fun t119 => (some t119)) else (if t118 ≤ 32 then ((earshotref04_quarter.f (wrap64 (32 - t118))).bind fun t120 => (some (wrap64 (-t120)))) else ((earshotref04_Cos.f k (wrap64 (64 - t118))).bind fun t121 => (some t121))))
theorem earshotref04_Cos.mono_l : ∀ k, (∀ y0, LeO (earshotref04_Cos.f k y0) (earshotref04_Cos.f (k + 1) y0))
  | 0 => fun _ r h => by simp [earshotref04_Cos.f] at h
  | k + 1 => by
    have ih0 := earshotref04_Cos.mono_l k
    · intro y0
      unfold earshotref04_Cos.f
      repeat' first
      | (with_reducible exact ih0 _)
      | (with_reducible exact LeO.refl _)
      | (with_reducible exact LeO.none _)
      | (with_reducible refine LeO.ite ?_ ?_)
      | (with_reducible refine LeO.bind ?_ (fun _ => ?_))
      | exact ih0 _
      | exact LeO.none _
      | refine LeO.ite ?_ ?_
      | refine LeO.bind ?_ (fun _ => ?_)
theorem earshotref04_Cos.mono : ∀ a0 k, LeO (earshotref04_Cos.f k a0) (earshotref04_Cos.f (k + 1) a0) := by
  intro a0 k
  have ih0 := earshotref04_Cos.mono_l k
  exact ih0 a0
set_option maxHeartbeats 8000000 in
set_option maxRecDepth 100000 in
theorem earshotref04_Cos.calls (k : Nat) : ∀ (a0 : Int) (r : Int) (w : World) (h : earshotref04_Cos.f k a0 = some r),
    Calls Tryd.prog 15 #[.int .i64 a0] w fun e w' => e = .returned (.int .i64 r) ∧ Below w.heap.size w w' := by
  induction k using Nat.strongRecOn with
  | _ k ih =>
  intro a0 r w h
  cases k with
  | zero => exact absurd h (by simp [earshotref04_Cos.f])
  | succ k =>
  simp only [earshotref04_Cos.f] at h
  have HB := Aside0.mk (Below.refl w.heap.size w)
  have H : ((earshotref04_Rest.f a0).bind fun t118 => (if t118 ≤ 16 then ((earshotref04_quarter.f t118).bind fun t119 => (some t119)) else (if t118 ≤ 32 then ((earshotref04_quarter.f (wrap64 (32 - t118))).bind fun t120 => (some (wrap64 (-t120)))) else ((earshotref04_Cos.f k (wrap64 (64 - t118))).bind fun t121 => (some t121))))) = some r := h
  clear h
  replace H := Option.bind_eq_some_iff.mp H
  obtain ⟨t118, A20, H⟩ := H
  replace H : (if t118 ≤ 16 then ((earshotref04_quarter.f t118).bind fun t119 => (some t119)) else (if t118 ≤ 32 then ((earshotref04_quarter.f (wrap64 (32 - t118))).bind fun t120 => (some (wrap64 (-t120)))) else ((earshotref04_Cos.f k (wrap64 (64 - t118))).bind fun t121 => (some t121)))) = some r := H
  have A2 := Aside0.mk A20
  clear A20
  by_cases c3 : t118 ≤ 16
  · rw [if_pos c3] at H
    have c3b0 : decide (t118 ≤ 16) = true := decide_eq_true c3
    clear c3
    replace H := Option.bind_eq_some_iff.mp H
    obtain ⟨t119, A40, H⟩ := H
    replace H : (some t119) = some r := H
    have A4 := Aside0.mk A40
    clear A40
    obtain rfl := Option.some.inj H
    go_enter Tryd.func15, Tryd.ntmps15
    go_wp2_with (first | ((with_reducible refine gate_callee (f := 13) rfl ?_); refine goesL_ (some 5) rfl rfl Tryd.func13 (by kernel_rfl) rfl #[.int .i64 a0] rfl (by (try simp only [List.map_toArray, List.map_cons, List.map_nil]); first | done | rfl | (simp only [List.length_drop, List.length_take]; rfl)) ?_; (with_reducible refine (earshotref04_Rest.calls a0 t118 _ A2.out).mono ?_); rintro e w' ⟨rfl, ⟨nd, rfl⟩⟩; refine ⟨_, rfl, ?_⟩) | ((with_reducible refine gate_callee (f := 23) rfl ?_); refine goesL_ (some 9) rfl rfl Tryd.func23 (by kernel_rfl) rfl #[.int .i64 t118] rfl (by (try simp only [List.map_toArray, List.map_cons, List.map_nil]); first | done | rfl | (simp only [List.length_drop, List.length_take]; rfl)) ?_; (with_reducible refine (earshotref04_quarter.calls t118 t119 _ A4.out).mono ?_); rintro e w5 ⟨rfl, hb⟩; refine ⟨_, rfl, ?_⟩; have n0_ := Aside0.mk (below_step (by repeat (first | (with_reducible first | exact HB.out | apply below_alloc | apply pw_below_drewN | apply below_drew1) | exact HB.out)) hb); clear HB; have HB := n0_; clear n0_; (try clear hb); (try clear hb2); (try clear hk); (try clear hi)))
    go_ret
    exact ⟨by first | rfl | (simp [errW_none, errW_some] <;> rfl) | (simp [*, errW_none, errW_some] <;> rfl), by repeat (first | (with_reducible first | exact HB.out | apply below_alloc | apply pw_below_drewN | apply below_drew1) | exact HB.out)⟩
  · rw [if_neg c3] at H
    have c3b0 : decide (t118 ≤ 16) = false := decide_eq_false c3
    clear c3
    by_cases c6 : t118 ≤ 32
    · rw [if_pos c6] at H
      have c6b0 : decide (t118 ≤ 32) = true := decide_eq_true c6
      clear c6
      replace H := Option.bind_eq_some_iff.mp H
      obtain ⟨t120, A70, H⟩ := H
      replace H : (some (wrap64 (-t120))) = some r := H
      have A7 := Aside0.mk A70
      clear A70
      obtain rfl := Option.some.inj H
      go_enter Tryd.func15, Tryd.ntmps15
      go_wp2_with (first | ((with_reducible refine gate_callee (f := 13) rfl ?_); refine goesL_ (some 5) rfl rfl Tryd.func13 (by kernel_rfl) rfl #[.int .i64 a0] rfl (by (try simp only [List.map_toArray, List.map_cons, List.map_nil]); first | done | rfl | (simp only [List.length_drop, List.length_take]; rfl)) ?_; (with_reducible refine (earshotref04_Rest.calls a0 t118 _ A2.out).mono ?_); rintro e w' ⟨rfl, ⟨nd, rfl⟩⟩; refine ⟨_, rfl, ?_⟩) | ((with_reducible refine gate_callee (f := 23) rfl ?_); refine goesL_ (some 14) rfl rfl Tryd.func23 (by kernel_rfl) rfl #[.int .i64 (wrap64 (32 - t118))] rfl (by (try simp only [List.map_toArray, List.map_cons, List.map_nil]); first | done | rfl | (simp only [List.length_drop, List.length_take]; rfl)) ?_; (with_reducible refine (earshotref04_quarter.calls (wrap64 (32 - t118)) t120 _ A7.out).mono ?_); rintro e w8 ⟨rfl, hb⟩; refine ⟨_, rfl, ?_⟩; have n0_ := Aside0.mk (below_step (by repeat (first | (with_reducible first | exact HB.out | apply below_alloc | apply pw_below_drewN | apply below_drew1) | exact HB.out)) hb); clear HB; have HB := n0_; clear n0_; (try clear hb); (try clear hb2); (try clear hk); (try clear hi)))
      go_ret
      exact ⟨by first | rfl | (simp [errW_none, errW_some] <;> rfl) | (simp [*, errW_none, errW_some] <;> rfl), by repeat (first | (with_reducible first | exact HB.out | apply below_alloc | apply pw_below_drewN | apply below_drew1) | exact HB.out)⟩
    · rw [if_neg c6] at H
      have c6b0 : decide (t118 ≤ 32) = false := decide_eq_false c6
      clear c6
      replace H := Option.bind_eq_some_iff.mp H
      obtain ⟨t121, A90, H⟩ := H
      replace H : (some t121) = some r := H
      have A9 := Aside0.mk A90
      clear A90
      obtain rfl := Option.some.inj H
      go_enter Tryd.func15, Tryd.ntmps15
      go_wp2_with (first | ((with_reducible refine gate_callee (f := 13) rfl ?_); refine goesL_ (some 5) rfl rfl Tryd.func13 (by kernel_rfl) rfl #[.int .i64 a0] rfl (by (try simp only [List.map_toArray, List.map_cons, List.map_nil]); first | done | rfl | (simp only [List.length_drop, List.length_take]; rfl)) ?_; (with_reducible refine (earshotref04_Rest.calls a0 t118 _ A2.out).mono ?_); rintro e w' ⟨rfl, ⟨nd, rfl⟩⟩; refine ⟨_, rfl, ?_⟩) | ((with_reducible refine gate_callee (f := 15) rfl ?_); refine goesL_ (some 18) rfl rfl Tryd.func15 (by kernel_rfl) rfl #[.int .i64 (wrap64 (64 - t118))] rfl (by (try simp only [List.map_toArray, List.map_cons, List.map_nil]); first | done | rfl | (simp only [List.length_drop, List.length_take]; rfl)) ?_; (with_reducible refine (ih k (by omega) (wrap64 (64 - t118)) t121 _ A9.out).mono ?_); rintro e w10 ⟨rfl, hb⟩; refine ⟨_, rfl, ?_⟩; have n0_ := Aside0.mk (below_step (by repeat (first | (with_reducible first | exact HB.out | apply below_alloc | apply pw_below_drewN | apply below_drew1) | exact HB.out)) hb); clear HB; have HB := n0_; clear n0_; (try clear hb); (try clear hb2); (try clear hk); (try clear hi)))
      go_ret
      exact ⟨by first | rfl | (simp [errW_none, errW_some] <;> rfl) | (simp [*, errW_none, errW_some] <;> rfl), by repeat (first | (with_reducible first | exact HB.out | apply below_alloc | apply pw_below_drewN | apply below_drew1) | exact HB.out)⟩

/-! ### earshotref02_Div: function 25 -/
def earshotref02_Div.f (a0 : Int) (a1 : Int) : Option (Int) := if a1 < 1 then (some 0) else ((earshotref02_Quot.f a0 a1).bind fun t122 => ((earshotref02_Rest.f a0 a1).bind fun t123 => (if t123 ≥ (wrap64 (a1 - t123)) then (some (wrap64 (t122 + 1))) else (some t122))))
set_option maxHeartbeats 8000000 in
set_option maxRecDepth 100000 in
theorem earshotref02_Div.calls (a0 : Int) (a1 : Int) (r : Int) (w : World) (h : earshotref02_Div.f a0 a1 = some r) :
    Calls Tryd.prog 25 #[.int .i64 a0, .int .i64 a1] w fun e w' => e = .returned (.int .i64 r) ∧ Drawn0 w w' := by
  have H : (if a1 < 1 then (some 0) else ((earshotref02_Quot.f a0 a1).bind fun t122 => ((earshotref02_Rest.f a0 a1).bind fun t123 => (if t123 ≥ (wrap64 (a1 - t123)) then (some (wrap64 (t122 + 1))) else (some t122))))) = some r := h
  clear h
  by_cases c3 : a1 < 1
  · rw [if_pos c3] at H
    have c3b0 : decide (a1 < 1) = true := decide_eq_true c3
    clear c3
    obtain rfl := Option.some.inj H
    go_enter Tryd.func25, Tryd.ntmps25
    go_wp2
    go_ret
    exact ⟨by first | rfl | (simp; done) | (simp [*]; done), by repeat (first | exact Drawn0.refl _ | apply Drawn0.step)⟩
  · rw [if_neg c3] at H
    have c3b0 : decide (a1 < 1) = false := decide_eq_false c3
    clear c3
    replace H := Option.bind_eq_some_iff.mp H
    obtain ⟨t122, A40, H⟩ := H
    replace H : ((earshotref02_Rest.f a0 a1).bind fun t123 => (if t123 ≥ (wrap64 (a1 - t123)) then (some (wrap64 (t122 + 1))) else (some t122))) = some r := H
    have A4 := Aside0.mk A40
    clear A40
    replace H := Option.bind_eq_some_iff.mp H
    obtain ⟨t123, A50, H⟩ := H
    replace H : (if t123 ≥ (wrap64 (a1 - t123)) then (some (wrap64 (t122 + 1))) else (some t122)) = some r := H
    have A5 := Aside0.mk A50
    clear A50
    by_cases c6 : t123 ≥ (wrap64 (a1 - t123))
    · rw [if_pos c6] at H
      have c6b0 : decide ((wrap64 (a1 - t123)) ≤ t123) = true := decide_eq_true c6
      clear c6
      obtain rfl := Option.some.inj H
      go_enter Tryd.func25, Tryd.ntmps25
      go_wp2_with (first | ((with_reducible refine gate_callee (f := 27) rfl ?_); refine goesL_ (some 11) rfl rfl Tryd.func27 (by kernel_rfl) rfl #[.int .i64 a0, .int .i64 a1] rfl (by (try simp only [List.map_toArray, List.map_cons, List.map_nil]); first | done | rfl | (simp only [List.length_drop, List.length_take]; rfl)) ?_; (with_reducible refine (earshotref02_Quot.calls a0 a1 t122 _ A4.out).mono ?_); rintro e w' ⟨rfl, ⟨nd, rfl⟩⟩; refine ⟨_, rfl, ?_⟩) | ((with_reducible refine gate_callee (f := 22) rfl ?_); refine goesL_ (some 14) rfl rfl Tryd.func22 (by kernel_rfl) rfl #[.int .i64 a0, .int .i64 a1] rfl (by (try simp only [List.map_toArray, List.map_cons, List.map_nil]); first | done | rfl | (simp only [List.length_drop, List.length_take]; rfl)) ?_; (with_reducible refine (earshotref02_Rest.calls a0 a1 t123 _ A5.out).mono ?_); rintro e w' ⟨rfl, ⟨nd, rfl⟩⟩; refine ⟨_, rfl, ?_⟩))
      go_ret
      exact ⟨by first | rfl | (simp; done) | (simp [*]; done), by repeat (first | exact Drawn0.refl _ | apply Drawn0.step)⟩
    · rw [if_neg c6] at H
      have c6b0 : decide ((wrap64 (a1 - t123)) ≤ t123) = false := decide_eq_false c6
      clear c6
      obtain rfl := Option.some.inj H
      go_enter Tryd.func25, Tryd.ntmps25
      go_wp2_with (first | ((with_reducible refine gate_callee (f := 27) rfl ?_); refine goesL_ (some 11) rfl rfl Tryd.func27 (by kernel_rfl) rfl #[.int .i64 a0, .int .i64 a1] rfl (by (try simp only [List.map_toArray, List.map_cons, List.map_nil]); first | done | rfl | (simp only [List.length_drop, List.length_take]; rfl)) ?_; (with_reducible refine (earshotref02_Quot.calls a0 a1 t122 _ A4.out).mono ?_); rintro e w' ⟨rfl, ⟨nd, rfl⟩⟩; refine ⟨_, rfl, ?_⟩) | ((with_reducible refine gate_callee (f := 22) rfl ?_); refine goesL_ (some 14) rfl rfl Tryd.func22 (by kernel_rfl) rfl #[.int .i64 a0, .int .i64 a1] rfl (by (try simp only [List.map_toArray, List.map_cons, List.map_nil]); first | done | rfl | (simp only [List.length_drop, List.length_take]; rfl)) ?_; (with_reducible refine (earshotref02_Rest.calls a0 a1 t123 _ A5.out).mono ?_); rintro e w' ⟨rfl, ⟨nd, rfl⟩⟩; refine ⟨_, rfl, ?_⟩))
      go_ret
      exact ⟨by first | rfl | (simp; done) | (simp [*]; done), by repeat (first | exact Drawn0.refl _ | apply Drawn0.step)⟩

/-! ### earshotref02_power: function 26 -/
def earshotref02_power.l0 : Nat → Int → Int → Int → Option (Int)
  | 0, _, _, _ => none
  | k + 1, x0, x3, x4 => if x4 < x0 then (earshotref02_power.l0 k x0 (wrap64 (x3 * 2)) (wrap64 (x4 + 1))) else (some x3)
def earshotref02_power.f (k : Nat) (a0 : Int) : Option (Int) := earshotref02_power.l0 k a0 1 0
theorem earshotref02_power.mono_l : ∀ k, (∀ y0 y1 y2, LeO (earshotref02_power.l0 k y0 y1 y2) (earshotref02_power.l0 (k + 1) y0 y1 y2))
  | 0 => fun _ _ _ r h => by simp [earshotref02_power.l0] at h
  | k + 1 => by
    have ih0 := earshotref02_power.mono_l k
    · intro y0 y1 y2
      unfold earshotref02_power.l0
      repeat' first
      | (with_reducible exact ih0 _ _ _)
      | (with_reducible exact LeO.refl _)
      | (with_reducible exact LeO.none _)
      | (with_reducible refine LeO.ite ?_ ?_)
      | (with_reducible refine LeO.bind ?_ (fun _ => ?_))
      | exact ih0 _ _ _
      | exact LeO.none _
      | refine LeO.ite ?_ ?_
      | refine LeO.bind ?_ (fun _ => ?_)
theorem earshotref02_power.mono : ∀ a0 k, LeO (earshotref02_power.f k a0) (earshotref02_power.f (k + 1) a0) := by
  intro a0 k
  have ih0 := earshotref02_power.mono_l k
  unfold earshotref02_power.f
  repeat' first
      | (with_reducible exact ih0 _ _ _)
      | (with_reducible exact LeO.refl _)
      | (with_reducible exact LeO.none _)
      | (with_reducible refine LeO.ite ?_ ?_)
      | (with_reducible refine LeO.bind ?_ (fun _ => ?_))
      | exact ih0 _ _ _
      | exact LeO.none _
      | refine LeO.ite ?_ ?_
      | refine LeO.bind ?_ (fun _ => ?_)
set_option maxHeartbeats 8000000 in
set_option maxRecDepth 100000 in
theorem earshotref02_power.calls (k : Nat) (a0 : Int) (r : Int) (w : World) (h : earshotref02_power.f k a0 = some r) :
    Calls Tryd.prog 26 #[.int .i64 a0] w fun e w' => e = .returned (.int .i64 r) ∧ Drawn0 w w' := by
  have H : (earshotref02_power.l0 k a0 1 0) = some r := h
  clear h
  have H' := Aside0.mk H
  clear H
  go_enter Tryd.func26, Tryd.ntmps26
  go_wp2
  go_loopg [3, 4] k (fun kq v3 v4 w' => ∃ (x3_1 : Int) (x4_1 : Int), v3 = .int .i64 x3_1 ∧ v4 = .int .i64 x4_1 ∧ Aside0 (earshotref02_power.l0 kq a0 x3_1 x4_1 = some r) ∧ Aside0 (kq ≤ k) ∧ Drawn0 w w')
  case atStart => exact ⟨(1), (0), (by first | rfl | (simp; done) | (simp [*]; done)), (by first | rfl | (simp; done) | (simp [*]; done)), H', ⟨Nat.le_refl _⟩, by repeat (first | exact Drawn0.refl _ | apply Drawn0.step)⟩
  case round =>
    clear H'
    obtain ⟨x3_1, x4_1, rfl, rfl, HA, HK1, ⟨m1, rfl⟩⟩ := hrel
    cases gk with
    | zero => exact absurd HA.out (by simp [earshotref02_power.l0])
    | succ k1 =>
      have H := HA.out
      clear HA
      simp only [earshotref02_power.l0] at H
      by_cases c2 : x4_1 < a0
      · rw [if_pos c2] at H
        have c2b0 : decide (x4_1 < a0) = true := decide_eq_true c2
        clear c2
        have H' := Aside0.mk H
        clear H
        go_wp2
        go_roundg k1
        case measure => have := HK1.out; omega
        case rel => exact ⟨(wrap64 (x3_1 * 2)), (wrap64 (x4_1 + 1)), (by first | rfl | (simp; done) | (simp [*]; done)), (by first | rfl | (simp; done) | (simp [*]; done)), H', ⟨by have := HK1.out; omega⟩, by repeat (first | exact Drawn0.refl _ | apply Drawn0.step)⟩
      · rw [if_neg c2] at H
        have c2b0 : decide (x4_1 < a0) = false := decide_eq_false c2
        clear c2
        obtain rfl := Option.some.inj H
        go_wp2
        go_ret
        exact ⟨by first | rfl | (simp; done) | (simp [*]; done), by repeat (first | exact Drawn0.refl _ | apply Drawn0.step)⟩

/-! ### earshotref02_Half: function 20 -/
def earshotref02_Half.j0 : Nat → Int → Int → Bool → Option (Int)
  | 0, _, _, _ => none
  | k + 1, x0, x1, x10 => if x10 = true then (some 0) else ((earshotref02_power.f k x1).bind fun t124 => ((earshotref02_Div.f x0 t124).bind fun t125 => (some t125)))
def earshotref02_Half.f (k : Nat) (a0 : Int) (a1 : Int) : Option (Int) := if a1 < 0 then (earshotref02_Half.j0 k a0 a1 true) else (earshotref02_Half.j0 k a0 a1 (decide (a1 > 62)))
theorem earshotref02_Half.mono_l : ∀ k, (∀ y0 y1 y2, LeO (earshotref02_Half.j0 k y0 y1 y2) (earshotref02_Half.j0 (k + 1) y0 y1 y2))
  | 0 => fun _ _ _ r h => by simp [earshotref02_Half.j0] at h
  | k + 1 => by
    have ih0 := earshotref02_Half.mono_l k
    · intro y0 y1 y2
      unfold earshotref02_Half.j0
      repeat' first
      | (with_reducible exact ih0 _ _ _)
      | (with_reducible exact earshotref02_power.mono _ _)
      | (with_reducible exact LeO.refl _)
      | (with_reducible exact LeO.none _)
      | (with_reducible refine LeO.ite ?_ ?_)
      | (with_reducible refine LeO.bind ?_ (fun _ => ?_))
      | exact ih0 _ _ _
      | exact earshotref02_power.mono _ _
      | exact LeO.none _
      | refine LeO.ite ?_ ?_
      | refine LeO.bind ?_ (fun _ => ?_)
theorem earshotref02_Half.mono : ∀ a0 a1 k, LeO (earshotref02_Half.f k a0 a1) (earshotref02_Half.f (k + 1) a0 a1) := by
  intro a0 a1 k
  have ih0 := earshotref02_Half.mono_l k
  unfold earshotref02_Half.f
  repeat' first
      | (with_reducible exact ih0 _ _ _)
      | (with_reducible exact earshotref02_power.mono _ _)
      | (with_reducible exact LeO.refl _)
      | (with_reducible exact LeO.none _)
      | (with_reducible refine LeO.ite ?_ ?_)
      | (with_reducible refine LeO.bind ?_ (fun _ => ?_))
      | exact ih0 _ _ _
      | exact earshotref02_power.mono _ _
      | exact LeO.none _
      | refine LeO.ite ?_ ?_
      | refine LeO.bind ?_ (fun _ => ?_)
set_option maxHeartbeats 8000000 in
set_option maxRecDepth 100000 in
theorem earshotref02_Half.calls (k : Nat) (a0 : Int) (a1 : Int) (r : Int) (w : World) (h : earshotref02_Half.f k a0 a1 = some r) :
    Calls Tryd.prog 20 #[.int .i64 a0, .int .i64 a1] w fun e w' => e = .returned (.int .i64 r) ∧ Drawn0 w w' := by
  have H : (if a1 < 0 then (earshotref02_Half.j0 k a0 a1 true) else (earshotref02_Half.j0 k a0 a1 (decide (a1 > 62)))) = some r := h
  clear h
  have HC3 := Aside0.mk H
  clear H
  go_enter Tryd.func20, Tryd.ntmps20
  go_upto_region 1 with (fail)
  go_cut [10] (fun v10 wc => ∃ (kq : Nat) (x10_2 : Bool), v10 = .bool x10_2 ∧ Aside0 (earshotref02_Half.j0 kq a0 a1 x10_2 = some r) ∧ Aside0 (kq ≤ k) ∧ Drawn0 w wc)
  case first =>
    have H := HC3.out
    clear HC3
    by_cases c4 : a1 < 0
    · rw [if_pos c4] at H
      have c4b0 : decide (a1 < 0) = true := decide_eq_true c4
      clear c4
      (first | rw [c4b0] | (simp only [i64_w, i32_w]; rw [c4b0]) | skip)
      have H' := Aside0.mk H
      clear H
      go_wp2
      go_meet
      case rel => exact ⟨_, (true), (by first | rfl | (simp; done) | (simp [*]; done)), H', ⟨by first | omega | exact Nat.le_refl _⟩, by repeat (first | exact Drawn0.refl _ | apply Drawn0.step)⟩
    · rw [if_neg c4] at H
      have c4b0 : decide (a1 < 0) = false := decide_eq_false c4
      clear c4
      (first | rw [c4b0] | (simp only [i64_w, i32_w]; rw [c4b0]) | skip)
      have H' := Aside0.mk H
      clear H
      go_wp2
      go_meet
      case rel => exact ⟨_, (decide (a1 > 62)), (by first | rfl | (simp; done) | (simp [*]; done)), H', ⟨by first | omega | exact Nat.le_refl _⟩, by repeat (first | exact Drawn0.refl _ | apply Drawn0.step)⟩
  case rest =>
    clear HC3
    try clear c2
    try clear p2
    try clear c4
    try clear c4b0
    obtain ⟨kq, x10_2, rfl, HA, HJ2, ⟨mc2, rfl⟩⟩ := hcut
    cases kq with
    | zero => exact absurd HA.out (by simp [earshotref02_Half.j0])
    | succ kj2 =>
      have H := HA.out
      clear HA
      simp only [earshotref02_Half.j0] at H
      by_cases c5 : x10_2 = true
      · subst c5
        have H1 : (some 0) = some r := by rw [if_pos rfl] at H; exact H
        clear H
        have H := H1
        clear H1
        obtain rfl := Option.some.inj H
        go_wp2
        go_ret
        exact ⟨by first | rfl | (simp; done) | (simp [*]; done), by repeat (first | exact Drawn0.refl _ | apply Drawn0.step)⟩
      · replace c5 := Bool.eq_false_iff.mpr c5
        subst c5
        have H1 : ((earshotref02_power.f kj2 a1).bind fun t124 => ((earshotref02_Div.f a0 t124).bind fun t125 => (some t125))) = some r := by rw [if_neg (show ¬ (false = true) by decide)] at H; exact H
        clear H
        have H := H1
        clear H1
        replace H := Option.bind_eq_some_iff.mp H
        obtain ⟨t124, A60, H⟩ := H
        replace H : ((earshotref02_Div.f a0 t124).bind fun t125 => (some t125)) = some r := H
        have A6 := Aside0.mk A60
        clear A60
        replace H := Option.bind_eq_some_iff.mp H
        obtain ⟨t125, A70, H⟩ := H
        replace H : (some t125) = some r := H
        have A7 := Aside0.mk A70
        clear A70
        obtain rfl := Option.some.inj H
        go_wp2_with (first | ((with_reducible refine gate_callee (f := 26) rfl ?_); refine goesL_ (some 13) rfl rfl Tryd.func26 (by kernel_rfl) rfl #[.int .i64 a1] rfl (by (try simp only [List.map_toArray, List.map_cons, List.map_nil]); first | done | rfl | (simp only [List.length_drop, List.length_take]; rfl)) ?_; (with_reducible refine (earshotref02_power.calls kj2 a1 t124 _ A6.out).mono ?_); rintro e w' ⟨rfl, ⟨nd, rfl⟩⟩; refine ⟨_, rfl, ?_⟩) | ((with_reducible refine gate_callee (f := 25) rfl ?_); refine goesL_ (some 14) rfl rfl Tryd.func25 (by kernel_rfl) rfl #[.int .i64 a0, .int .i64 t124] rfl (by (try simp only [List.map_toArray, List.map_cons, List.map_nil]); first | done | rfl | (simp only [List.length_drop, List.length_take]; rfl)) ?_; (with_reducible refine (earshotref02_Div.calls a0 t124 t125 _ A7.out).mono ?_); rintro e w' ⟨rfl, ⟨nd, rfl⟩⟩; refine ⟨_, rfl, ?_⟩))
        go_ret
        exact ⟨by first | rfl | (simp; done) | (simp [*]; done), by repeat (first | exact Drawn0.refl _ | apply Drawn0.step)⟩

/-! ### earshotref04_Window: function 11 -/
mutual
def earshotref04_Window.j0 : Nat → Int → Bool → Option (List Int)
  | 0, _, _ => none
  | k + 1, x0, x14 => if x14 = true then (some ([] : List Int)) else (earshotref04_Window.l0 k x0 ([] : List Int) 0)
def earshotref04_Window.l0 : Nat → Int → List Int → Int → Option (List Int)
  | 0, _, _, _ => none
  | k + 1, x0, x3, x4 => if x4 < x0 then (if x0 = 0 then (none) else ((earshotref04_Cos.f k (wrap64 (Int.tdiv (wrap64 (x4 * 64)) x0))).bind fun t126 => ((earshotref02_Half.f k (wrap64 (7537 * t126)) 14).bind fun t127 => (if x3.length < 17592186044416 then (earshotref04_Window.l0 k x0 (x3 ++ [wrap64 (8847 - t127)]) (wrap64 (x4 + 1))) else (none))))) else (some x3)
end
def earshotref04_Window.f (k : Nat) (a0 : Int) : Option (List Int) := if a0 = 16 then (earshotref04_Window.j0 k a0 false) else (if a0 = 32 then (earshotref04_Window.j0 k a0 false) else (earshotref04_Window.j0 k a0 (a0 != 64)))
theorem earshotref04_Window.mono_l : ∀ k, (∀ y0 y1, LeO (earshotref04_Window.j0 k y0 y1) (earshotref04_Window.j0 (k + 1) y0 y1)) ∧ (∀ y0 y1 y2, LeO (earshotref04_Window.l0 k y0 y1 y2) (earshotref04_Window.l0 (k + 1) y0 y1 y2))
  | 0 => ⟨fun _ _ r h => by simp [earshotref04_Window.j0] at h, fun _ _ _ r h => by simp [earshotref04_Window.l0] at h⟩
  | k + 1 => by
    obtain ⟨ih0, ih1⟩ := earshotref04_Window.mono_l k
    refine ⟨?_, ?_⟩
    · intro y0 y1
      unfold earshotref04_Window.j0
      repeat' first
      | (with_reducible exact ih0 _ _)
      | (with_reducible exact ih1 _ _ _)
      | (with_reducible exact earshotref02_Half.mono _ _ _)
      | (with_reducible exact earshotref04_Cos.mono _ _)
      | (with_reducible exact LeO.refl _)
      | (with_reducible exact LeO.none _)
      | (with_reducible refine LeO.ite ?_ ?_)
      | (with_reducible refine LeO.bind ?_ (fun _ => ?_))
      | exact ih0 _ _
      | exact ih1 _ _ _
      | exact earshotref02_Half.mono _ _ _
      | exact earshotref04_Cos.mono _ _
      | exact LeO.none _
      | refine LeO.ite ?_ ?_
      | refine LeO.bind ?_ (fun _ => ?_)
    · intro y0 y1 y2
      unfold earshotref04_Window.l0
      repeat' first
      | (with_reducible exact ih0 _ _)
      | (with_reducible exact ih1 _ _ _)
      | (with_reducible exact earshotref02_Half.mono _ _ _)
      | (with_reducible exact earshotref04_Cos.mono _ _)
      | (with_reducible exact LeO.refl _)
      | (with_reducible exact LeO.none _)
      | (with_reducible refine LeO.ite ?_ ?_)
      | (with_reducible refine LeO.bind ?_ (fun _ => ?_))
      | exact ih0 _ _
      | exact ih1 _ _ _
      | exact earshotref02_Half.mono _ _ _
      | exact earshotref04_Cos.mono _ _
      | exact LeO.none _
      | refine LeO.ite ?_ ?_
      | refine LeO.bind ?_ (fun _ => ?_)
theorem earshotref04_Window.mono : ∀ a0 k, LeO (earshotref04_Window.f k a0) (earshotref04_Window.f (k + 1) a0) := by
  intro a0 k
  obtain ⟨ih0, ih1⟩ := earshotref04_Window.mono_l k
  unfold earshotref04_Window.f
  repeat' first
      | (with_reducible exact ih0 _ _)
      | (with_reducible exact ih1 _ _ _)
      | (with_reducible exact earshotref02_Half.mono _ _ _)
      | (with_reducible exact earshotref04_Cos.mono _ _)
      | (with_reducible exact LeO.refl _)
      | (with_reducible exact LeO.none _)
      | (with_reducible refine LeO.ite ?_ ?_)
      | (with_reducible refine LeO.bind ?_ (fun _ => ?_))
      | exact ih0 _ _
      | exact ih1 _ _ _
      | exact earshotref02_Half.mono _ _ _
      | exact earshotref04_Cos.mono _ _
      | exact LeO.none _
      | refine LeO.ite ?_ ?_
      | refine LeO.bind ?_ (fun _ => ?_)
set_option maxHeartbeats 8000000 in
set_option maxRecDepth 100000 in
theorem earshotref04_Window.calls (k : Nat) (a0 : Int) (r : List Int) (w : World) (h : earshotref04_Window.f k a0 = some r) :
    Calls Tryd.prog 11 #[.int .i64 a0] w fun e w' => ∃ v0_ : Value, e = .returned (v0_) ∧ Kd.R (Kd.int .i64) 3 w' w.heap.size (fun _ => True) v0_ r ∧ Below w.heap.size w w' := by
  have HB := Aside0.mk (Below.refl w.heap.size w)
  have H : (if a0 = 16 then (earshotref04_Window.j0 k a0 false) else (if a0 = 32 then (earshotref04_Window.j0 k a0 false) else (earshotref04_Window.j0 k a0 (a0 != 64)))) = some r := h
  clear h
  have HC2 := Aside0.mk H
  clear H
  go_enter Tryd.func11, Tryd.ntmps11
  go_upto_region 1 with (fail)
  go_cut [14] (fun v14 wc => ∃ (kq : Nat) (x14_1 : Bool), v14 = .bool x14_1 ∧ Aside0 (earshotref04_Window.j0 kq a0 x14_1 = some r) ∧ Aside0 (kq ≤ k) ∧ Aside0 (Below w.heap.size w wc))
  case first =>
    have H := HC2.out
    clear HC2
    by_cases c3 : a0 = 16
    · rw [if_pos c3] at H
      have c3b0 : (a0 == 16) = true := beq_iff_eq.mpr c3
      have c3b1 : (a0 != 16) = false := bne_eq_false_iff_eq.mpr c3
      clear c3
      (first | rw [c3b0] | (simp only [i64_w, i32_w]; rw [c3b0]) | skip)
      have H' := Aside0.mk H
      clear H
      go_wp2
      go_meet
      case rel => exact ⟨_, (false), (by first | rfl | (simp; done) | (simp [*]; done)), H', ⟨by first | omega | exact Nat.le_refl _⟩, ⟨by repeat (first | (with_reducible first | exact HB.out | apply below_alloc | apply pw_below_drewN | apply below_drew1) | exact HB.out)⟩⟩
    · rw [if_neg c3] at H
      have c3b0 : (a0 == 16) = false := beq_eq_false_iff_ne.mpr c3
      have c3b1 : (a0 != 16) = true := bne_iff_ne.mpr c3
      (first | rw [c3b0] | (simp only [i64_w, i32_w]; rw [c3b0]) | skip)
      by_cases c4 : a0 = 32
      · rw [if_pos c4] at H
        have c4b0 : (a0 == 32) = true := beq_iff_eq.mpr c4
        have c4b1 : (a0 != 32) = false := bne_eq_false_iff_eq.mpr c4
        clear c4
        have H' := Aside0.mk H
        clear H
        go_wp2
        go_meet
        case rel => exact ⟨_, (false), (by first | rfl | (simp; done) | (simp [*]; done)), H', ⟨by first | omega | exact Nat.le_refl _⟩, ⟨by repeat (first | (with_reducible first | exact HB.out | apply below_alloc | apply pw_below_drewN | apply below_drew1) | exact HB.out)⟩⟩
      · rw [if_neg c4] at H
        have c4b0 : (a0 == 32) = false := beq_eq_false_iff_ne.mpr c4
        have c4b1 : (a0 != 32) = true := bne_iff_ne.mpr c4
        have H' := Aside0.mk H
        clear H
        go_wp2
        go_meet
        case rel => exact ⟨_, ((a0 != 64)), (by first | rfl | (simp; done) | (simp [*]; done)), H', ⟨by first | omega | exact Nat.le_refl _⟩, ⟨by repeat (first | (with_reducible first | exact HB.out | apply below_alloc | apply pw_below_drewN | apply below_drew1) | exact HB.out)⟩⟩
  case rest =>
    clear HC2
    try clear c1
    try clear p2
    try clear c3
    try clear c3b0
    try clear c3b1
    try clear c4
    try clear c4b0
    try clear c4b1
    obtain ⟨kq, x14_1, rfl, HA, HJ1, HB⟩ := hcut
    cases kq with
    | zero => exact absurd HA.out (by simp [earshotref04_Window.j0])
    | succ kj1 =>
      have H := HA.out
      clear HA
      simp only [earshotref04_Window.j0] at H
      by_cases c5 : x14_1 = true
      · subst c5
        have H1 : (some ([] : List Int)) = some r := by rw [if_pos rfl] at H; exact H
        clear H
        have H := H1
        clear H1
        obtain rfl := Option.some.inj H
        go_wp2
        go_ret
        exact ⟨_, by first | rfl | (simp [errW_none, errW_some] <;> rfl) | (simp [*, errW_none, errW_some] <;> rfl), by first | exact Kd.R_nil _ _ _ _ _ | exact Kd.N_nil _ _ _ _ _ | exact Kd.V_nil _ _ _ _ _ | exact Kd.Q_nil _ _ _ _ _ | exact Kd.S_nil _ _ _ _ _, by repeat (first | (with_reducible first | exact HB.out | apply below_alloc | apply pw_below_drewN | apply below_drew1) | exact HB.out)⟩
      · replace c5 := Bool.eq_false_iff.mpr c5
        subst c5
        have H1 : (earshotref04_Window.l0 kj1 a0 ([] : List Int) 0) = some r := by rw [if_neg (show ¬ (false = true) by decide)] at H; exact H
        clear H
        have H := H1
        clear H1
        have H' := Aside0.mk H
        clear H
        go_wp2
        go_loopg [3, 4] kj1 (fun kq v3 v4 w' => ∃ (x3_2 : List Int) (x4_2 : Int), v4 = .int .i64 x4_2 ∧ Aside0 (earshotref04_Window.l0 kq a0 x3_2 x4_2 = some r) ∧ Aside0 (kq ≤ kj1) ∧ Aside0 (Kd.R (Kd.int .i64) 3 w' w.heap.size (fun _ => True) v3 x3_2) ∧ Aside0 (Below w.heap.size w w'))
        case atStart => exact ⟨(([] : List Int)), (0), (by first | rfl | (simp; done) | (simp [*]; done)), H', ⟨Nat.le_refl _⟩, ⟨by first | exact Kd.R_nil _ _ _ _ _ | exact Kd.N_nil _ _ _ _ _ | exact Kd.V_nil _ _ _ _ _ | exact Kd.Q_nil _ _ _ _ _ | exact Kd.S_nil _ _ _ _ _⟩, ⟨by repeat (first | (with_reducible first | exact HB.out | apply below_alloc | apply pw_below_drewN | apply below_drew1) | exact HB.out)⟩⟩
        case round =>
          clear H'
          try clear c1
          try clear p2
          try clear c3
          try clear c3b0
          try clear c3b1
          try clear c4
          try clear c4b0
          try clear c4b1
          try clear c5
          try clear p2
          obtain ⟨x3_2, x4_2, rfl, HA, HK2, HO_3, HB⟩ := hrel
          cases gk with
          | zero => exact absurd HA.out (by simp [earshotref04_Window.l0])
          | succ k2 =>
            have H := HA.out
            clear HA
            simp only [earshotref04_Window.l0] at H
            by_cases c6 : x4_2 < a0
            · rw [if_pos c6] at H
              have c6b0 : decide (x4_2 < a0) = true := decide_eq_true c6
              clear c6
              by_cases c7 : a0 = 0
              · rw [if_pos c7] at H
                exact absurd H (by simp)
              · rw [if_neg c7] at H
                have c7b0 : (a0 == 0) = false := beq_eq_false_iff_ne.mpr c7
                have c7b1 : (a0 != 0) = true := bne_iff_ne.mpr c7
                replace H := Option.bind_eq_some_iff.mp H
                obtain ⟨t126, A80, H⟩ := H
                replace H : ((earshotref02_Half.f k2 (wrap64 (7537 * t126)) 14).bind fun t127 => (if x3_2.length < 17592186044416 then (earshotref04_Window.l0 k2 a0 (x3_2 ++ [wrap64 (8847 - t127)]) (wrap64 (x4_2 + 1))) else (none))) = some r := H
                have A8 := Aside0.mk A80
                clear A80
                replace H := Option.bind_eq_some_iff.mp H
                obtain ⟨t127, A90, H⟩ := H
                replace H : (if x3_2.length < 17592186044416 then (earshotref04_Window.l0 k2 a0 (x3_2 ++ [wrap64 (8847 - t127)]) (wrap64 (x4_2 + 1))) else (none)) = some r := H
                have A9 := Aside0.mk A90
                clear A90
                by_cases c10 : x3_2.length < 17592186044416
                · rw [if_pos c10] at H
                  have LMc10 := Aside0.mk c10
                  clear c10
                  obtain ⟨y128, hy128⟩ : ∃ y_ : List Int, y_ = (x3_2 ++ [wrap64 (8847 - t127)]) := ⟨_, rfl⟩
                  replace H : (earshotref04_Window.l0 k2 a0 y128 (wrap64 (x4_2 + 1))) = some r := by first | (rw [hy128]; with_reducible exact H) | (have H2_ := (Option.bind_some _ _).symm.trans H; rw [hy128]; with_reducible exact H2_) | (have H2_ := (Option.bind_some _ _).symm.trans H; with_reducible exact H2_) | with_reducible exact H | (rw [hy128]; exact H) | exact H
                  have Ny128 := Aside0.mk hy128
                  clear hy128
                  have H' := Aside0.mk H
                  clear H
                  go_wp2_with (first | ((with_reducible refine gate_callee (f := 15) rfl ?_); refine goesL_ (some 25) rfl rfl Tryd.func15 (by kernel_rfl) rfl #[.int .i64 (wrap64 (Int.tdiv (wrap64 (x4_2 * 64)) a0))] rfl (by (try simp only [List.map_toArray, List.map_cons, List.map_nil]); first | done | rfl | (simp only [List.length_drop, List.length_take]; rfl)) ?_; (with_reducible refine (earshotref04_Cos.calls k2 (wrap64 (Int.tdiv (wrap64 (x4_2 * 64)) a0)) t126 _ A8.out).mono ?_); rintro e w11 ⟨rfl, hb⟩; refine ⟨_, rfl, ?_⟩; have n0_ := Aside0.mk (Kd.R_below (by (with_reducible repeat (first | apply Kd.R_alloc | apply Kd.R_drewN | apply Kd.R_drew)); (first | exact HO_3.out | exact Kd.R_mono HO_3.out (fun _ _ => trivial) | exact Kd.R_mono HO_3.out (fun _ hk => hk.1))) hb); have n1_ := Aside0.mk (below_step (by repeat (first | (with_reducible first | exact HB.out | apply below_alloc | apply pw_below_drewN | apply below_drew1) | exact HB.out)) hb); clear HO_3; clear HB; have HO_3 := n0_; have HB := n1_; clear n0_ n1_; (try clear hb); (try clear hb2); (try clear hk); (try clear hi)) | ((with_reducible refine gate_callee (f := 20) rfl ?_); refine goesL_ (some 27) rfl rfl Tryd.func20 (by kernel_rfl) rfl #[.int .i64 (wrap64 (7537 * t126)), .int .i64 14] rfl (by (try simp only [List.map_toArray, List.map_cons, List.map_nil]); first | done | rfl | (simp only [List.length_drop, List.length_take]; rfl)) ?_; (with_reducible refine (earshotref02_Half.calls k2 (wrap64 (7537 * t126)) 14 t127 _ A9.out).mono ?_); rintro e w' ⟨rfl, ⟨nd, rfl⟩⟩; refine ⟨_, rfl, ?_⟩) | ((with_reducible refine gate_builtin (b := .append) (xs := #[.tmp 20, .tmp 29]) rfl ?_); at_builtin; refine Kd.R_append (Kd.int .i64) (w0 := w) w.heap.size rfl (.tmp 20) (.tmp 29) 24 3 (.int .i64 0) 8 rfl Tryd.underlying24 info3 rfl (by decide) (by omega) u3 x3_2 (wrap64 (8847 - t127)) [.int .i64 (wrap64 (8847 - t127))] (fun _ => True) (fun _ => False) rfl rfl ?aP (fun _ hk => hk.elim) ?aF ?aO ?aB ?aS ?aL ?_; (case aP => exact rfl); (case aB => exact (by repeat (first | (with_reducible first | exact HB.out | apply below_alloc | apply pw_below_drewN | apply below_drew1) | exact HB.out))); (case aF => exact (fun _ _ => trivial)); (case aO => exact (by (with_reducible repeat (first | apply Kd.R_alloc | apply Kd.R_drewN | apply Kd.R_drew)); (first | exact HO_3.out | exact Kd.R_mono HO_3.out (fun _ _ => trivial) | exact Kd.R_mono HO_3.out (fun _ hk => hk.1)))); (case aS => exact (below_size (by repeat (first | (with_reducible first | exact HB.out | apply below_alloc | apply pw_below_drewN | apply below_drew1) | exact HB.out)))); (case aL => have := LMc10.out; omega); intro v129 w12 ho hb hg hat; rw [← Ny128.out] at ho; have n0_ := Aside0.mk (hb); have n1_ := Aside0.mk (ho); clear HB; clear HO_3; have HB := n0_; have HO130 := n1_; clear n0_ n1_; clear ho hb hg hat))
                  go_roundg k2
                  case measure => have := HJ1.out; have := HK2.out; omega
                  case rel => exact ⟨(y128), (wrap64 (x4_2 + 1)), (by first | rfl | (simp; done) | (simp [*]; done)), H', ⟨by have := HJ1.out; have := HK2.out; omega⟩, ⟨by (with_reducible repeat (first | apply Kd.R_alloc | apply Kd.R_drewN | apply Kd.R_drew)); exact HO130.out⟩, ⟨by repeat (first | (with_reducible first | exact HB.out | apply below_alloc | apply pw_below_drewN | apply below_drew1) | exact HB.out)⟩⟩
                · rw [if_neg c10] at H
                  exact absurd H (by simp)
            · rw [if_neg c6] at H
              have c6b0 : decide (x4_2 < a0) = false := decide_eq_false c6
              clear c6
              obtain rfl := Option.some.inj H
              go_wp2
              go_ret
              exact ⟨_, by first | rfl | (simp [errW_none, errW_some] <;> rfl) | (simp [*, errW_none, errW_some] <;> rfl), by (with_reducible repeat (first | apply Kd.R_alloc | apply Kd.R_drewN | apply Kd.R_drew)); exact HO_3.out, by repeat (first | (with_reducible first | exact HB.out | apply below_alloc | apply pw_below_drewN | apply below_drew1) | exact HB.out)⟩

/-! ### earshotref04_Sin: function 17 -/
def earshotref04_Sin.f (k : Nat) (a0 : Int) : Option (Int) := (earshotref04_Rest.f a0).bind fun t131 => ((earshotref04_Cos.f k (wrap64 (t131 - 16))).bind fun t132 => (some t132))
theorem earshotref04_Sin.mono : ∀ a0 k, LeO (earshotref04_Sin.f k a0) (earshotref04_Sin.f (k + 1) a0) := by
  intro a0 k
  unfold earshotref04_Sin.f
  repeat' first
      | (with_reducible exact earshotref04_Cos.mono _ _)
      | (with_reducible exact LeO.refl _)
      | (with_reducible exact LeO.none _)
      | (with_reducible refine LeO.ite ?_ ?_)
      | (with_reducible refine LeO.bind ?_ (fun _ => ?_))
      | exact earshotref04_Cos.mono _ _
      | exact LeO.none _
      | refine LeO.ite ?_ ?_
      | refine LeO.bind ?_ (fun _ => ?_)
set_option maxHeartbeats 8000000 in
set_option maxRecDepth 100000 in
theorem earshotref04_Sin.calls (k : Nat) (a0 : Int) (r : Int) (w : World) (h : earshotref04_Sin.f k a0 = some r) :
    Calls Tryd.prog 17 #[.int .i64 a0] w fun e w' => e = .returned (.int .i64 r) ∧ Below w.heap.size w w' := by
  have HB := Aside0.mk (Below.refl w.heap.size w)
  have H : ((earshotref04_Rest.f a0).bind fun t131 => ((earshotref04_Cos.f k (wrap64 (t131 - 16))).bind fun t132 => (some t132))) = some r := h
  clear h
  replace H := Option.bind_eq_some_iff.mp H
  obtain ⟨t131, A20, H⟩ := H
  replace H : ((earshotref04_Cos.f k (wrap64 (t131 - 16))).bind fun t132 => (some t132)) = some r := H
  have A2 := Aside0.mk A20
  clear A20
  replace H := Option.bind_eq_some_iff.mp H
  obtain ⟨t132, A30, H⟩ := H
  replace H : (some t132) = some r := H
  have A3 := Aside0.mk A30
  clear A30
  obtain rfl := Option.some.inj H
  go_enter Tryd.func17, Tryd.ntmps17
  go_wp2_with (first | ((with_reducible refine gate_callee (f := 13) rfl ?_); refine goesL_ (some 4) rfl rfl Tryd.func13 (by kernel_rfl) rfl #[.int .i64 a0] rfl (by (try simp only [List.map_toArray, List.map_cons, List.map_nil]); first | done | rfl | (simp only [List.length_drop, List.length_take]; rfl)) ?_; (with_reducible refine (earshotref04_Rest.calls a0 t131 _ A2.out).mono ?_); rintro e w' ⟨rfl, ⟨nd, rfl⟩⟩; refine ⟨_, rfl, ?_⟩) | ((with_reducible refine gate_callee (f := 15) rfl ?_); refine goesL_ (some 6) rfl rfl Tryd.func15 (by kernel_rfl) rfl #[.int .i64 (wrap64 (t131 - 16))] rfl (by (try simp only [List.map_toArray, List.map_cons, List.map_nil]); first | done | rfl | (simp only [List.length_drop, List.length_take]; rfl)) ?_; (with_reducible refine (earshotref04_Cos.calls k (wrap64 (t131 - 16)) t132 _ A3.out).mono ?_); rintro e w4 ⟨rfl, hb⟩; refine ⟨_, rfl, ?_⟩; have n0_ := Aside0.mk (below_step (by repeat (first | (with_reducible first | exact HB.out | apply below_alloc | apply pw_below_drewN | apply below_drew1) | exact HB.out)) hb); clear HB; have HB := n0_; clear n0_; (try clear hb); (try clear hb2); (try clear hk); (try clear hi)))
  go_ret
  exact ⟨by first | rfl | (simp [errW_none, errW_some] <;> rfl) | (simp [*, errW_none, errW_some] <;> rfl), by repeat (first | (with_reducible first | exact HB.out | apply below_alloc | apply pw_below_drewN | apply below_drew1) | exact HB.out)⟩

/-! ### earshotlaw04_CircleTells: function 3 -/
-- PURE intro a0 a1 h0 _; unfold earshotlaw04_CircleTells.f; rw [if_pos (by simp [Lit.wf, IntKind.wrap, IntKind.bits, IntKind.signed] at h0; simp [ci64b]; exact h0)]
theorem i64_mask (i : Nat) (hi : i ≤ 62) (n m : Int) (hm : m = ((2 ^ i - 1 : Nat) : Int)) : Go.bits .and .i64 n m = n % ((2 ^ i : Nat) : Int) := by
  have hp : 0 < 2 ^ i := Nat.two_pow_pos i
  have hle : 2 ^ i ≤ 4611686018427387904 := Nat.pow_le_pow_right (n := 2) (by decide) hi
  have h1 : (BitVec.ofInt 64 m).toNat = 2 ^ i - 1 := by
    subst hm
    rw [BitVec.ofInt_natCast, BitVec.toNat_ofNat]
    exact Nat.mod_eq_of_lt (by omega)
  have key : (BitVec.ofInt 64 n &&& BitVec.ofInt 64 m).toNat = (n % ((2 ^ 64 : Nat) : Int)).toNat % 2 ^ i := by
    rw [BitVec.toNat_and, BitVec.toNat_ofInt, h1, Nat.and_two_pow_sub_one_eq_mod]
  show IntKind.i64.wrap ((BitVec.ofInt 64 n &&& BitVec.ofInt 64 m).toNat : Nat) = n % _
  rw [key, IntKind.wrap_i64]
  have r0 : 0 ≤ n % ((2 ^ 64 : Nat) : Int) := Int.emod_nonneg _ (by decide)
  have e : (((n % ((2 ^ 64 : Nat) : Int)).toNat % 2 ^ i : Nat) : Int) = n % ((2 ^ i : Nat) : Int) := by
    rw [Int.natCast_emod, Int.toNat_of_nonneg r0]
    refine Int.emod_emod_of_dvd _ ?_
    exact Int.natCast_dvd_natCast.2 (Nat.pow_dvd_pow 2 (by omega))
  rw [e]
  generalize hz : n % ((2 ^ i : Nat) : Int) = z
  have m0 : 0 ≤ z := hz ▸ Int.emod_nonneg _ (by omega)
  have m1 : z < ((2 ^ i : Nat) : Int) := hz ▸ Int.emod_lt_of_pos _ (by omega)
  have hle' : ((2 ^ i : Nat) : Int) ≤ 4611686018427387904 := Int.ofNat_le.2 hle
  have m2 : z < 4611686018427387904 := Int.lt_of_lt_of_le m1 hle'
  clear m1 hle' hle hz e key h1
  omega

def earshotlaw04_CircleTells.f (a0 : Int) (a1 : Int) : Option (Bool) := if ci64b a0 = true then some true else none
theorem t_awake : earshotlaw04_awake.f = some true := by decide +kernel
theorem t_range {x : Int} (h : ci64b x = true) : -9223372036854775808 ≤ x ∧ x ≤ 9223372036854775807 := by simpa [ci64b] using h
theorem t_ci {x : Int} (h0 : -9223372036854775808 ≤ x) (h1 : x ≤ 9223372036854775807) : ci64b x = true := by simp [ci64b, h0, h1]
theorem t_refrest {x : Int} (h : ci64b x = true) : earshotref04_Rest.f x = some (x % 64) := by
  obtain ⟨h0, h1⟩ := t_range h
  have e1 := Int.tmod_eq_emod (a := x) (b := 64)
  have e2 := Int.tdiv_eq_ediv (a := x) (b := 64)
  have m0 := Int.emod_nonneg x (show (64 : Int) ≠ 0 by decide)
  unfold earshotref04_Rest.f earshotref02_Rest.f earshotref02_Quot.f
  rw [if_neg (by decide)]
  by_cases hd : 0 ≤ x ∨ (64 : Int) ∣ x
  · rw [if_pos hd] at e1 e2
    rw [if_neg (by omega)]
    simp only [Option.bind_some, Option.some.injEq]
    unfold wrap64; omega
  · rw [if_neg hd] at e1 e2
    have hne : x % 64 ≠ 0 := fun e => hd (.inr (Int.dvd_of_emod_eq_zero e))
    rw [if_pos (by omega)]
    simp only [Option.bind_some, Option.some.injEq]
    simp only [show Int.sign 64 = 1 from rfl] at e2
    unfold wrap64; omega
theorem t_refcos64 : ∀ r : Fin 64, earshotref04_Cos.f 3 ((r.1 : Nat) : Int) = some (cosAt ((r.1 : Nat) : Int)) := by decide +kernel
theorem t_refcos {x : Int} (h : ci64b x = true) : earshotref04_Cos.f 3 x = some (cosAt (x % 64)) := by
  have e : earshotref04_Cos.f 3 x = earshotref04_Cos.f 3 (x % 64) := by
    unfold earshotref04_Cos.f
    rw [t_refrest h, t_refrest (x := x % 64) (t_ci (by omega) (by omega)), Int.emod_emod_of_dvd _ (Int.dvd_refl 64)]
  have m0 := Int.emod_nonneg x (show (64 : Int) ≠ 0 by decide)
  have m1 := Int.emod_lt_of_pos x (show (0 : Int) < 64 by decide)
  obtain ⟨n, hn⟩ := Int.eq_ofNat_of_zero_le m0
  rw [e, hn]
  exact t_refcos64 ⟨n, by omega⟩
theorem t_cos {x : Int} (h : ci64b x = true) : circle_Cos.f x = some (cosAt (x % 64)) := by unfold circle_Cos.f; rw [if_pos h]
theorem t_sin {x : Int} (h : ci64b x = true) : circle_Sin.f x = some (cosAt ((x % 64 - 16) % 64)) := by
  unfold circle_Sin.f
  have m0 := Int.emod_nonneg x (show (64 : Int) ≠ 0 by decide)
  have m1 := Int.emod_lt_of_pos x (show (0 : Int) < 64 by decide)
  rw [rest_some h, Option.bind_some, show wrap64 (x % 64 - 16) = x % 64 - 16 by unfold wrap64; omega]
  unfold circle_Cos.f
  rw [if_pos (t_ci (by omega) (by omega))]
  rfl
theorem t_refsin {x : Int} (h : ci64b x = true) : earshotref04_Sin.f 3 x = some (cosAt ((x % 64 - 16) % 64)) := by
  unfold earshotref04_Sin.f
  have m0 := Int.emod_nonneg x (show (64 : Int) ≠ 0 by decide)
  have m1 := Int.emod_lt_of_pos x (show (0 : Int) < 64 by decide)
  rw [t_refrest h, Option.bind_some, show wrap64 (x % 64 - 16) = x % 64 - 16 by unfold wrap64; omega, t_refcos (t_ci (by omega) (by omega))]
  rfl
theorem t_refwin (n : Int) : earshotref04_Window.f 100 n = some (winList n) := by
  by_cases h1 : n = 16
  · subst h1; decide +kernel
  by_cases h2 : n = 32
  · subst h2; decide +kernel
  by_cases h3 : n = 64
  · subst h3; decide +kernel
  unfold earshotref04_Window.f winList
  rw [if_neg h1, if_neg h2, if_neg h1, if_neg h2, if_neg h3, show (n != 64) = true by simp [h3]]
  simp [earshotref04_Window.j0]
theorem t_same_go (l : List Int) (hl : l.length ≤ 1000000000) (d : Nat) : ∀ (k i : Nat), i ≤ l.length → l.length - i = d → d < k → earshotref04_Same.l0 k l l (i : Int) = some true := by
  induction d with
  | zero =>
    intro k i h0 hd hk
    obtain ⟨k, rfl⟩ : ∃ m, k = m + 1 := ⟨k - 1, by omega⟩
    simp only [earshotref04_Same.l0]
    rw [if_neg (by omega)]
  | succ d ih =>
    intro k i h0 hd hk
    obtain ⟨k, rfl⟩ : ∃ m, k = m + 1 := ⟨k - 1, by omega⟩
    simp only [earshotref04_Same.l0]
    have hw : wrap64 ((i : Int) + 1) = ((i + 1 : Nat) : Int) := by unfold wrap64; omega
    rw [if_pos (by omega), if_pos (by omega), if_pos (by omega), if_pos trivial, hw]
    exact ih k (i + 1) (by omega) (by omega) (by omega)
theorem t_same (l : List Int) (hl : l.length ≤ 1000000000) : earshotref04_Same.f (l.length + 1) l l = some true := by
  unfold earshotref04_Same.f
  rw [if_pos rfl]
  exact t_same_go l hl l.length _ 0 (by omega) (by omega) (by omega)
theorem t_winlen (n : Int) : (winList n).length ≤ 1000000000 := by
  unfold winList
  split
  · simp
  split
  · simp
  split <;> simp
theorem c_reads {e : Nat} {w : World} {base : Nat} {ok : Nat → Prop} {v : Value} {xs : List Int} {d : Kd Int} (h : d.R e w base ok v xs) : ∃ A c, v = .slice A xs.length c ∧ Aside0 (xs.length ≤ c) ∧ Aside0 (d.C w A xs.length xs) := by
  obtain ⟨A, c, rfl, h1, h2⟩ := Kd.R_reads h
  exact ⟨A, c, rfl, ⟨h1⟩, ⟨h2⟩⟩
theorem t_masks (n : Int) : ∃ j : Nat, j < 4 ∧ Go.bits .and .i64 n 3 = (j : Int) := by
  have h := i64_mask 2 (by decide) n 3 rfl
  exact ⟨(n % 4).toNat, by omega, by rw [h]; omega⟩
set_option maxHeartbeats 8000000 in
theorem earshotlaw04_CircleTells.calls (a0 : Int) (a1 : Int) (r : Bool) (w : World) (hG : GlobA w) (h : earshotlaw04_CircleTells.f a0 a1 = some r) :
    Calls Tryd.prog 3 #[.int .i64 a0, .int .i64 a1] w fun e w' => e = .returned (.bool r) ∧ Below w.heap.size w w' := by
  have h0 : ci64b a0 = true := by
    unfold earshotlaw04_CircleTells.f at h
    split at h
    · assumption
    · cases h
  unfold earshotlaw04_CircleTells.f at h
  rw [if_pos h0] at h
  obtain rfl := Option.some.inj h
  clear h
  obtain ⟨j, hj, hand⟩ := t_masks a1
  have HG := Aside0.mk hG
  have H0 := Aside0.mk h0
  have HA := Aside0.mk t_awake
  have HL := Aside0.mk (t_winlen a1)
  clear hG h0
  have hj4 : j = 0 ∨ j = 1 ∨ j = 2 ∨ j = 3 := by omega
  clear hj
  rcases hj4 with rfl | rfl | rfl | rfl
  all_goals
    simp only [Int.cast_ofNat_Int] at hand
    go_enter Tryd.func3, Tryd.ntmps3
    go_wp2_with (first
        | (go_at_call 8; (with_reducible refine (earshotlaw04_awake.calls true _ HG.out HA.out).mono ?_); rintro e w1 ⟨rfl, hb⟩; have HB1 := Aside0.mk hb; have HG1 := Aside0.mk (HG.out.below hb); clear hb)
        | (go_at_call 10; (with_reducible refine (circle_Window.calls a1 _ _ HG1.out rfl).mono ?_); rintro e w2 ⟨v, rfl, hR, hb⟩; obtain ⟨A1, c1, rfl, HC1, HR1⟩ := c_reads hR; have HB2 := Aside0.mk (below_step HB1.out hb); have HG2 := Aside0.mk (HG1.out.below hb); clear hb hR HG1)
        | (go_at_call 11; (with_reducible refine (earshotref04_Window.calls 100 a1 _ _ (t_refwin a1)).mono ?_); rintro e w3 ⟨v, rfl, hR, hb⟩; obtain ⟨A2, c2, rfl, HC2, HR2⟩ := c_reads hR; have HB3 := Aside0.mk (below_step HB2.out hb); have HG3 := Aside0.mk (HG2.out.below hb); have HR3 := Aside0.mk (Kd.C_below HR1.out hb); clear hb hR HG2)
        | (go_at_call 9; (with_reducible refine (earshotref04_Same.calls _ A1 c1 _ A2 c2 _ _ _ HR3.out HC1.out HR2.out HC2.out (t_same _ HL.out)).mono ?_); clear HR3; rintro e w4 ⟨rfl, ⟨nd, rfl⟩⟩; have HB4 := Aside0.mk (pw_below_drewN HB3.out nd); have HG4 := Aside0.mk (HG3.out.drewN nd))
        | (go_at_call 10; (with_reducible refine (circle_Window.calls _ _ _ HG4.out rfl).mono ?_); rintro e w5 ⟨v, rfl, hR, hb⟩; obtain ⟨A5, c5, rfl, HC5, HR5⟩ := c_reads hR; have HB5 := Aside0.mk (below_step HB4.out hb); have HG5 := Aside0.mk (HG4.out.below hb); clear hb hR HG4)
        | (go_at_call 11; (with_reducible refine (earshotref04_Window.calls 100 _ _ _ (t_refwin _)).mono ?_); rintro e w6 ⟨v, rfl, hR, hb⟩; obtain ⟨A6, c6, rfl, HC6, HR6⟩ := c_reads hR; have HB6 := Aside0.mk (below_step HB5.out hb); have HG6 := Aside0.mk (HG5.out.below hb); have HR7 := Aside0.mk (Kd.C_below HR5.out hb); clear hb hR HG5)
        | (go_at_call 9; (with_reducible refine (earshotref04_Same.calls _ A5 c5 _ A6 c6 _ _ _ HR7.out HC5.out HR6.out HC6.out (t_same _ (t_winlen _))).mono ?_); clear HR7; rintro e w7 ⟨rfl, ⟨nd2, rfl⟩⟩)
        | (go_at_call 12; (with_reducible refine (circle_Rest.calls _ _ _ (rest_some H0.out)).mono ?_); rintro e w' ⟨rfl, ⟨ne, rfl⟩⟩)
        | (go_at_call 13; (with_reducible refine (earshotref04_Rest.calls _ _ _ (t_refrest H0.out)).mono ?_); rintro e w' ⟨rfl, ⟨nf, rfl⟩⟩)
        | (go_at_call 14; (with_reducible refine (circle_Cos.calls _ _ _ (HG6.out.drewN _) (t_cos H0.out)).mono ?_); rintro e w8 ⟨rfl, ⟨nd3, rfl⟩⟩)
        | (go_at_call 15; (with_reducible refine (earshotref04_Cos.calls 3 _ _ _ (t_refcos H0.out)).mono ?_); rintro e w9 ⟨rfl, hb⟩; have HB9 := Aside0.mk (below_step (pw_below_drewN HB6.out _) hb); have HG9 := Aside0.mk ((HG6.out.drewN _).below hb); clear hb)
        | (go_at_call 16; (with_reducible refine (circle_Sin.calls _ _ _ HG9.out (t_sin H0.out)).mono ?_); rintro e w10 ⟨rfl, ⟨nd5, rfl⟩⟩)
        | (go_at_call 17; (with_reducible refine (earshotref04_Sin.calls 3 _ _ _ (t_refsin H0.out)).mono ?_); rintro e w11 ⟨rfl, hb⟩; have HB11 := Aside0.mk (below_step (pw_below_drewN HB9.out _) hb); clear hb))
    go_ret
    exact ⟨rfl, HB11.out⟩

/-- THE ONE PURE STATEMENT of earshotlaw04_CircleTells: yours. -/
def earshotlaw04_CircleTells.Pure : Prop := ∀ (a0 : Int) (a1 : Int), (Lit.int .i64 a0).wf = true → (Lit.int .i64 a1).wf = true → earshotlaw04_CircleTells.f a0 a1 = some true
theorem earshotlaw04_CircleTells.walk (P : earshotlaw04_CircleTells.Pure) (a0 : Int) (a1 : Int) (w : World) (w0 : (Lit.int .i64 a0).wf = true) (w1 : (Lit.int .i64 a1).wf = true) (hG : GlobA w) :
    Calls Tryd.prog 3 #[.int .i64 a0, .int .i64 a1] w fun e w' => e = .returned (.bool true) ∧ Below w.heap.size w w' := by
  have h := P a0 a1 w0 w1
  refine (earshotlaw04_CircleTells.calls a0 a1 true w hG h).mono ?_
  rintro e w' ⟨rfl, hd⟩
  exact ⟨rfl, hd⟩

end Go.Proofs.YtohmecfjpmapnaaDoor.PCircleTells
