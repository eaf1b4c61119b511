-- Written by a program of this work (wip/tools) for this claim; Lean checks it.
import Derived.Test.YtmhacdnnnebpdaaDoorPFrontTailsx0
namespace Go.Proofs.YtmhacdnnnebpdaaDoor.PFrontTails
open Go.RowKit Go.Proofs.YtmhacdnnnebpdaaDoorW.PrintWords Go.Proofs.YtmhacdnnnebpdaaDoorW.PrintLast Go.Proofs.YtmhacdnnnebpdaaDoorW.PrintMore
attribute [local go_sem] max2_int min2_int max_two min_two max_three min_three max_four min_four   -- for this text's walks alone
set_option linter.unusedVariables false
set_option linter.unusedSimpArgs false

/-! ### earshotref04_Same: function 16 -/
def earshotref04_Same.l0 : Nat → List Int → List Int → Int → Option (Bool)
  | 0, _, _, _ => none
  | k + 1, x0, x1, x5 => if x5 < (x0.length : Int) then (if 0 ≤ x5 then (if x5 < (x1.length : Int) then (if (rd x0 x5) = (rd x1 x5) then (earshotref04_Same.l0 k x0 x1 (wrap64 (x5 + 1))) else (some false)) else (none)) else (none)) else (some true)
def earshotref04_Same.f (k : Nat) (l0 : List Int) (l1 : List Int) : Option (Bool) := if (l0.length : Int) = (l1.length : Int) then (earshotref04_Same.l0 k l0 l1 0) else (some false)
theorem earshotref04_Same.mono_l : ∀ k, (∀ y0 y1 y2, LeO (earshotref04_Same.l0 k y0 y1 y2) (earshotref04_Same.l0 (k + 1) y0 y1 y2))
  | 0 => fun _ _ _ r h => by simp [earshotref04_Same.l0] at h
  | k + 1 => by
    have ih0 := earshotref04_Same.mono_l k
    · intro y0 y1 y2
      unfold earshotref04_Same.l0
      repeat' first
      | (with_reducible exact ih0 _ _ _)
      | (with_reducible exact LeO.refl _)
      | (with_reducible exact LeO.none _)
      | (with_reducible refine LeO.ite ?_ ?_)
      | (with_reducible refine LeO.bind ?_ (fun _ => ?_))
      | exact ih0 _ _ _
      | exact LeO.none _
      | refine LeO.ite ?_ ?_
      | refine LeO.bind ?_ (fun _ => ?_)
theorem earshotref04_Same.mono : ∀ a0 a1 k, LeO (earshotref04_Same.f k a0 a1) (earshotref04_Same.f (k + 1) a0 a1) := by
  intro a0 a1 k
  have ih0 := earshotref04_Same.mono_l k
  unfold earshotref04_Same.f
  repeat' first
      | (with_reducible exact ih0 _ _ _)
      | (with_reducible exact LeO.refl _)
      | (with_reducible exact LeO.none _)
      | (with_reducible refine LeO.ite ?_ ?_)
      | (with_reducible refine LeO.bind ?_ (fun _ => ?_))
      | exact ih0 _ _ _
      | exact LeO.none _
      | refine LeO.ite ?_ ?_
      | refine LeO.bind ?_ (fun _ => ?_)
set_option maxHeartbeats 8000000 in
set_option maxRecDepth 100000 in
theorem earshotref04_Same.calls (k : Nat) (A0 : Option Addr) (c0 : Nat) (l0 : List Int) (A1 : Option Addr) (c1 : Nat) (l1 : List Int) (r : Bool) (w : World) (hr0 : Kd.C (Kd.int .i64) w A0 l0.length l0) (hc0 : l0.length ≤ c0) (hr1 : Kd.C (Kd.int .i64) w A1 l1.length l1) (hc1 : l1.length ≤ c1) (h : earshotref04_Same.f k l0 l1 = some r) :
    Calls Tryd.prog 16 #[.slice A0 l0.length c0, .slice A1 l1.length c1] w fun e w' => e = .returned (.bool r) ∧ Drawn0 w w' := by
  have HR0 := Aside0.mk hr0
  have HC0 := Aside0.mk hc0
  clear hr0 hc0
  have HR1 := Aside0.mk hr1
  have HC1 := Aside0.mk hc1
  clear hr1 hc1
  have H : (if (l0.length : Int) = (l1.length : Int) then (earshotref04_Same.l0 k l0 l1 0) else (some false)) = some r := h
  clear h
  by_cases c3 : (l0.length : Int) = (l1.length : Int)
  · rw [if_pos c3] at H
    have c3b0 : ((l0.length : Int) == (l1.length : Int)) = true := beq_iff_eq.mpr c3
    have c3b1 : ((l0.length : Int) != (l1.length : Int)) = false := bne_eq_false_iff_eq.mpr c3
    have c3b2 : (l0.length == l1.length) = true := by first | simpa using c3 | (simp at c3 ⊢; omega)
    clear c3
    have H' := Aside0.mk H
    clear H
    go_enter Tryd.func16, Tryd.ntmps16
    go_wp2
    repeat (go_quiet (fail); try go_wp2)
    go_loopg [5] k (fun kq v5 w' => ∃ (x5_1 : Int), v5 = .int .i64 x5_1 ∧ Aside0 (earshotref04_Same.l0 kq l0 l1 x5_1 = some r) ∧ Aside0 (kq ≤ k) ∧ Drawn0 w w')
    case atStart => exact ⟨(0), (by first | rfl | (simp; done) | (simp [*]; done)), H', ⟨Nat.le_refl _⟩, by repeat (first | exact Drawn0.refl _ | apply Drawn0.step)⟩
    case round =>
      clear H'
      try clear c1
      try clear p2
      try clear c3
      try clear c3b0
      try clear c3b1
      try clear c3b2
      obtain ⟨x5_1, rfl, HA, HK1, ⟨m1, rfl⟩⟩ := hrel
      cases gk with
      | zero => exact absurd HA.out (by simp [earshotref04_Same.l0])
      | succ k1 =>
        have H := HA.out
        clear HA
        simp only [earshotref04_Same.l0] at H
        by_cases c4 : x5_1 < (l0.length : Int)
        · rw [if_pos c4] at H
          have c4b0 : decide (x5_1 < (l0.length : Int)) = true := decide_eq_true c4
          clear c4
          by_cases c5 : 0 ≤ x5_1
          · rw [if_pos c5] at H
            have c5b0 : decide (0 ≤ x5_1) = true := decide_eq_true c5
            clear c5
            by_cases c6 : x5_1 < (l1.length : Int)
            · rw [if_pos c6] at H
              have c6b0 : decide (x5_1 < (l1.length : Int)) = true := decide_eq_true c6
              clear c6
              by_cases c7 : (rd l0 x5_1) = (rd l1 x5_1)
              · rw [if_pos c7] at H
                have c7b0 : ((rd l0 x5_1) == (rd l1 x5_1)) = true := beq_iff_eq.mpr c7
                have c7b1 : ((rd l0 x5_1) != (rd l1 x5_1)) = false := bne_eq_false_iff_eq.mpr c7
                clear c7
                have H' := Aside0.mk H
                clear H
                have p101 : 0 ≤ (x5_1 : Int) := of_decide_eq_true (by first | (with_reducible assumption) | assumption)
                have q101 : x5_1 < (l0.length : Int) := of_decide_eq_true (by first | (with_reducible assumption) | assumption)
                obtain ⟨ad101, e101, hx101_0⟩ := Kd.at_int HR0.out x5_1 p101 q101
                cases e101
                replace p101 := eq_true p101
                replace q101 := eq_true q101
                have p102 : 0 ≤ (x5_1 : Int) := of_decide_eq_true (by first | (with_reducible assumption) | assumption)
                have q102 : x5_1 < (l1.length : Int) := of_decide_eq_true (by first | (with_reducible assumption) | assumption)
                obtain ⟨ad102, e102, hx102_0⟩ := Kd.at_int HR1.out x5_1 p102 q102
                cases e102
                replace p102 := eq_true p102
                replace q102 := eq_true q102
                go_wp2
                repeat (go_quiet (fail); try go_wp2)
                go_roundg k1
                case measure => have := HK1.out; omega
                case rel => exact ⟨(wrap64 (x5_1 + 1)), (by first | rfl | (simp; done) | (simp [*]; done)), H', ⟨by have := HK1.out; omega⟩, by repeat (first | exact Drawn0.refl _ | apply Drawn0.step)⟩
              · rw [if_neg c7] at H
                have c7b0 : ((rd l0 x5_1) == (rd l1 x5_1)) = false := beq_eq_false_iff_ne.mpr c7
                have c7b1 : ((rd l0 x5_1) != (rd l1 x5_1)) = true := bne_iff_ne.mpr c7
                obtain rfl := Option.some.inj H
                have p101 : 0 ≤ (x5_1 : Int) := of_decide_eq_true (by first | (with_reducible assumption) | assumption)
                have q101 : x5_1 < (l0.length : Int) := of_decide_eq_true (by first | (with_reducible assumption) | assumption)
                obtain ⟨ad101, e101, hx101_0⟩ := Kd.at_int HR0.out x5_1 p101 q101
                cases e101
                replace p101 := eq_true p101
                replace q101 := eq_true q101
                have p102 : 0 ≤ (x5_1 : Int) := of_decide_eq_true (by first | (with_reducible assumption) | assumption)
                have q102 : x5_1 < (l1.length : Int) := of_decide_eq_true (by first | (with_reducible assumption) | assumption)
                obtain ⟨ad102, e102, hx102_0⟩ := Kd.at_int HR1.out x5_1 p102 q102
                cases e102
                replace p102 := eq_true p102
                replace q102 := eq_true q102
                go_wp2
                repeat (go_quiet (fail); try go_wp2)
                go_ret
                exact ⟨by first | rfl | (simp; done) | (simp [*]; done), by repeat (first | exact Drawn0.refl _ | apply Drawn0.step)⟩
            · rw [if_neg c6] at H
              exact absurd H (by simp)
          · rw [if_neg c5] at H
            exact absurd H (by simp)
        · rw [if_neg c4] at H
          have c4b0 : decide (x5_1 < (l0.length : Int)) = false := decide_eq_false c4
          clear c4
          obtain rfl := Option.some.inj H
          go_wp2
          repeat (go_quiet (fail); try go_wp2)
          go_ret
          exact ⟨by first | rfl | (simp; done) | (simp [*]; done), by repeat (first | exact Drawn0.refl _ | apply Drawn0.step)⟩
  · rw [if_neg c3] at H
    have c3b0 : ((l0.length : Int) == (l1.length : Int)) = false := beq_eq_false_iff_ne.mpr c3
    have c3b1 : ((l0.length : Int) != (l1.length : Int)) = true := bne_iff_ne.mpr c3
    have c3b2 : (l0.length == l1.length) = false := by first | simpa using c3 | (simp at c3 ⊢; omega)
    obtain rfl := Option.some.inj H
    go_enter Tryd.func16, Tryd.ntmps16
    go_wp2
    repeat (go_quiet (fail); try go_wp2)
    go_ret
    exact ⟨by first | rfl | (simp; done) | (simp [*]; done), by repeat (first | exact Drawn0.refl _ | apply Drawn0.step)⟩

/-! ### dct_may: function 44 -/
def dct_may.f (a0 : Int) : Option (Bool) := if a0 = 4 then (some true) else (if a0 = 8 then (some true) else (if a0 = 16 then (some true) else (some false)))
set_option maxHeartbeats 8000000 in
set_option maxRecDepth 100000 in
theorem dct_may.calls (a0 : Int) (r : Bool) (w : World) (h : dct_may.f a0 = some r) :
    Calls Tryd.prog 44 #[.int .i64 a0] w fun e w' => e = .returned (.bool r) ∧ Drawn0 w w' := by
  have H : (if a0 = 4 then (some true) else (if a0 = 8 then (some true) else (if a0 = 16 then (some true) else (some false)))) = some r := h
  clear h
  by_cases c2 : a0 = 4
  · rw [if_pos c2] at H
    have c2b0 : (a0 == 4) = true := beq_iff_eq.mpr c2
    have c2b1 : (a0 != 4) = false := bne_eq_false_iff_eq.mpr c2
    clear c2
    obtain rfl := Option.some.inj H
    go_enter Tryd.func44, Tryd.ntmps44
    go_wp2
    go_ret
    exact ⟨by first | rfl | (simp; done) | (simp [*]; done), by repeat (first | exact Drawn0.refl _ | apply Drawn0.step)⟩
  · rw [if_neg c2] at H
    have c2b0 : (a0 == 4) = false := beq_eq_false_iff_ne.mpr c2
    have c2b1 : (a0 != 4) = true := bne_iff_ne.mpr c2
    by_cases c3 : a0 = 8
    · rw [if_pos c3] at H
      have c3b0 : (a0 == 8) = true := beq_iff_eq.mpr c3
      have c3b1 : (a0 != 8) = false := bne_eq_false_iff_eq.mpr c3
      clear c3
      obtain rfl := Option.some.inj H
      go_enter Tryd.func44, Tryd.ntmps44
      go_wp2
      go_ret
      exact ⟨by first | rfl | (simp; done) | (simp [*]; done), by repeat (first | exact Drawn0.refl _ | apply Drawn0.step)⟩
    · rw [if_neg c3] at H
      have c3b0 : (a0 == 8) = false := beq_eq_false_iff_ne.mpr c3
      have c3b1 : (a0 != 8) = true := bne_iff_ne.mpr c3
      by_cases c4 : a0 = 16
      · rw [if_pos c4] at H
        have c4b0 : (a0 == 16) = true := beq_iff_eq.mpr c4
        have c4b1 : (a0 != 16) = false := bne_eq_false_iff_eq.mpr c4
        clear c4
        obtain rfl := Option.some.inj H
        go_enter Tryd.func44, Tryd.ntmps44
        go_wp2
        go_ret
        exact ⟨by first | rfl | (simp; done) | (simp [*]; done), by repeat (first | exact Drawn0.refl _ | apply Drawn0.step)⟩
      · rw [if_neg c4] at H
        have c4b0 : (a0 == 16) = false := beq_eq_false_iff_ne.mpr c4
        have c4b1 : (a0 != 16) = true := bne_iff_ne.mpr c4
        obtain rfl := Option.some.inj H
        go_enter Tryd.func44, Tryd.ntmps44
        go_wp2
        go_ret
        exact ⟨by first | rfl | (simp; done) | (simp [*]; done), by repeat (first | exact Drawn0.refl _ | apply Drawn0.step)⟩

/-! ### round_Parts: function 83 -/
def round_Parts.f (a0 : Int) (a1 : Int) : Option (Int × Int) := if a1 < 1 then (some (0, 0)) else (if a1 = 0 then (none) else (if (Int.tmod a0 a1) < 0 then (some (wrap64 ((wrap64 (Int.tdiv a0 a1)) - 1), wrap64 ((Int.tmod a0 a1) + a1))) else (some (wrap64 (Int.tdiv a0 a1), Int.tmod a0 a1))))
set_option maxHeartbeats 8000000 in
set_option maxRecDepth 100000 in
theorem round_Parts.calls (a0 : Int) (a1 : Int) (r1 : Int) (r2 : Int) (w : World) (h : round_Parts.f a0 a1 = some (r1, r2)) :
    Calls Tryd.prog 83 #[.int .i64 a0, .int .i64 a1] w fun e w' => e = .returned (.tuple #[.int .i64 r1, .int .i64 r2]) ∧ Drawn0 w w' := by
  have H : (if a1 < 1 then (some (0, 0)) else (if a1 = 0 then (none) else (if (Int.tmod a0 a1) < 0 then (some (wrap64 ((wrap64 (Int.tdiv a0 a1)) - 1), wrap64 ((Int.tmod a0 a1) + a1))) else (some (wrap64 (Int.tdiv a0 a1), Int.tmod a0 a1))))) = some (r1, r2) := h
  clear h
  by_cases c3 : a1 < 1
  · rw [if_pos c3] at H
    have c3b0 : decide (a1 < 1) = true := decide_eq_true c3
    clear c3
    simp only [Option.some.injEq, Prod.mk.injEq] at H
    obtain ⟨rfl, rfl⟩ := H
    go_enter Tryd.func83, Tryd.ntmps83
    go_wp2
    repeat (go_quiet (fail); try go_wp2)
    go_ret2
    exact ⟨by first | rfl | (simp; done) | (simp [*]; done), by repeat (first | exact Drawn0.refl _ | apply Drawn0.step)⟩
  · rw [if_neg c3] at H
    have c3b0 : decide (a1 < 1) = false := decide_eq_false c3
    clear c3
    by_cases c4 : a1 = 0
    · rw [if_pos c4] at H
      exact absurd H (by simp)
    · rw [if_neg c4] at H
      have c4b0 : (a1 == 0) = false := beq_eq_false_iff_ne.mpr c4
      have c4b1 : (a1 != 0) = true := bne_iff_ne.mpr c4
      by_cases c5 : (Int.tmod a0 a1) < 0
      · rw [if_pos c5] at H
        have c5b0 : decide ((Int.tmod a0 a1) < 0) = true := decide_eq_true c5
        clear c5
        simp only [Option.some.injEq, Prod.mk.injEq] at H
        obtain ⟨rfl, rfl⟩ := H
        go_enter Tryd.func83, Tryd.ntmps83
        go_wp2
        repeat (go_quiet (fail); try go_wp2)
        go_ret2
        exact ⟨by first | rfl | (simp; done) | (simp [*]; done), by repeat (first | exact Drawn0.refl _ | apply Drawn0.step)⟩
      · rw [if_neg c5] at H
        have c5b0 : decide ((Int.tmod a0 a1) < 0) = false := decide_eq_false c5
        clear c5
        simp only [Option.some.injEq, Prod.mk.injEq] at H
        obtain ⟨rfl, rfl⟩ := H
        go_enter Tryd.func83, Tryd.ntmps83
        go_wp2
        repeat (go_quiet (fail); try go_wp2)
        go_ret2
        exact ⟨by first | rfl | (simp; done) | (simp [*]; done), by repeat (first | exact Drawn0.refl _ | apply Drawn0.step)⟩

/-! ### circle_Rest: function 72 -/
def circle_Rest.f (a0 : Int) : Option (Int) := (round_Parts.f a0 64).bind fun bt103 => (some bt103.2)
set_option maxHeartbeats 8000000 in
set_option maxRecDepth 100000 in
theorem circle_Rest.calls (a0 : Int) (r : Int) (w : World) (h : circle_Rest.f a0 = some r) :
    Calls Tryd.prog 72 #[.int .i64 a0] w fun e w' => e = .returned (.int .i64 r) ∧ Drawn0 w w' := by
  have H : ((round_Parts.f a0 64).bind fun bt103 => (some bt103.2)) = some r := h
  clear h
  replace H := Option.bind_eq_some_iff.mp H
  obtain ⟨⟨t103, t104⟩, A20, H⟩ := H
  replace H : (some t104) = some r := H
  have A2 := Aside0.mk A20
  clear A20
  obtain rfl := Option.some.inj H
  go_enter Tryd.func72, Tryd.ntmps72
  go_wp2_with (first | ((with_reducible refine gate_callee (f := 83) rfl ?_); refine goesL_ (some 7) rfl rfl Tryd.func83 (by kernel_rfl) rfl #[.int .i64 a0, .int .i64 64] rfl (by (try simp only [List.map_toArray, List.map_cons, List.map_nil]); first | done | rfl | (simp only [List.length_drop, List.length_take]; rfl)) ?_; (with_reducible refine (round_Parts.calls a0 64 t103 t104 _ A2.out).mono ?_); rintro e w' ⟨rfl, ⟨nd, rfl⟩⟩; refine ⟨_, rfl, ?_⟩))
  go_ret
  exact ⟨by first | rfl | (simp; done) | (simp [*]; done), by repeat (first | exact Drawn0.refl _ | apply Drawn0.step)⟩

/-! ### circle_Cos: function 45 -/
def cosTab : List Int := [16384, 16305, 16069, 15679, 15137, 14449, 13623, 12665, 11585, 10394, 9102, 7723, 6270, 4756, 3196, 1606, 0]
/-- The package variable reads as the text lays it. -/
def GlobA (w : World) : Prop := 0 < w.heap.size ∧ ∀ j : Nat, j < 17 → w.cell? ⟨0, j, none⟩ = some (.int .i64 (cosTab.getD j 0))
theorem GlobA.below {w w' : World} (h : GlobA w) (hb : Below w.heap.size w w') : GlobA w' :=
  ⟨Nat.lt_of_lt_of_le h.1 hb.size, fun j hj => by rw [hb.cell (p := ⟨0, j, none⟩) h.1]; exact h.2 j hj⟩
theorem GlobA.drewN {w : World} (h : GlobA w) (n : Nat) : GlobA (w.drewN n) := h
def ci64b (x : Int) : Bool := decide (-9223372036854775808 ≤ x) && decide (x ≤ 9223372036854775807)
/-- The cosine of a place from 0 to 63. -/
def cosAt (r : Int) : Int := if r > 32 then (if 64 - r > 16 then -(cosTab.getD (32 - (64 - r)).toNat 0) else cosTab.getD (64 - r).toNat 0) else (if r > 16 then -(cosTab.getD (32 - r).toNat 0) else cosTab.getD r.toNat 0)
def circle_Cos.f (a0 : Int) : Option (Int) := if ci64b a0 = true then (some (cosAt (a0 % 64))) else (none)
theorem rest_some {x : Int} (hx : ci64b x = true) : circle_Rest.f x = some (x % 64) := by
  have hx' : -9223372036854775808 ≤ x ∧ x ≤ 9223372036854775807 := by simpa [ci64b] using hx
  have e1 := Int.tmod_eq_emod (a := x) (b := 64)
  have m0 := Int.emod_nonneg x (show (64 : Int) ≠ 0 by decide)
  have m1 := Int.emod_lt_of_pos x (show (0 : Int) < 64 by decide)
  unfold circle_Rest.f round_Parts.f
  rw [if_neg (by decide), if_neg (by decide)]
  by_cases h : 0 ≤ x ∨ (64 : Int) ∣ x
  · rw [if_pos h] at e1
    rw [if_neg (by omega), Option.bind_some, e1]
    simp
  · rw [if_neg h] at e1
    have e2 : ((Int.natAbs 64 : Nat) : Int) = 64 := rfl
    rw [e2] at e1
    rw [if_pos (by omega), Option.bind_some, e1, show wrap64 (x % 64 - 64 + 64) = x % 64 by unfold wrap64; omega]
theorem cosTab_le (j : Nat) : 0 ≤ cosTab.getD j 0 ∧ cosTab.getD j 0 ≤ 16384 := by
  by_cases h : j < 17
  · exact (by decide : ∀ i : Fin 17, 0 ≤ cosTab.getD i.1 0 ∧ cosTab.getD i.1 0 ≤ 16384) ⟨j, h⟩
  · rw [List.getD_eq_getElem?_getD, List.getElem?_eq_none (by simp [cosTab]; omega)]
    decide
set_option maxHeartbeats 8000000 in
theorem circle_Cos.calls (a0 : Int) (r : Int) (w : World) (hG : GlobA w) (h : circle_Cos.f a0 = some r) :
    Calls Tryd.prog 45 #[.int .i64 a0] w fun e w' => e = .returned (.int .i64 r) ∧ Drawn0 w w' := by
  have hx : ci64b a0 = true := by
    unfold circle_Cos.f at h
    split at h
    · assumption
    · cases h
  have HR : Aside0 (cosAt (a0 % 64) = r) := by
    unfold circle_Cos.f at h
    rw [if_pos hx] at h
    exact ⟨Option.some.inj h⟩
  have HP := Aside0.mk (rest_some hx)
  have m0 := Int.emod_nonneg a0 (show (64 : Int) ≠ 0 by decide)
  have m1 := Int.emod_lt_of_pos a0 (show (0 : Int) < 64 by decide)
  clear h hx
  obtain ⟨q, hq⟩ : ∃ q, a0 % 64 = q := ⟨_, rfl⟩
  rw [hq] at HR HP m0 m1
  clear hq
  have HG := Aside0.mk hG
  clear hG
  have cell : ∀ i : Int, 0 ≤ i → i < 17 → Aside0 (w.cell? ⟨0, i.toNat, none⟩ = some (.int .i64 (cosTab.getD i.toNat 0))) := fun i h0 h1 => ⟨HG.out.2 i.toNat (by omega)⟩
  have rng := cosTab_le
  by_cases c1 : q > 32
  · have d1 : decide (32 < q) = true := decide_eq_true c1
    by_cases c2 : 64 - q > 16
    · have d2 : decide (16 < 64 - q) = true := decide_eq_true c2
      have HR2 : Aside0 (r = -(cosTab.getD (32 - (64 - q)).toNat 0)) := ⟨by rw [← HR.out, cosAt, if_pos c1, if_pos c2]⟩
      have hc := (cell (32 - (64 - q)) (by omega) (by omega)).out
      have hb := rng (32 - (64 - q)).toNat
      obtain ⟨v, hv⟩ : ∃ v, cosTab.getD (32 - (64 - q)).toNat 0 = v := ⟨_, rfl⟩
      rw [hv] at hc hb HR2
      clear hv HR cell rng
      have hb0 := hb.1
      have hb1 := hb.2
      clear hb
      go_enter Tryd.func45, Tryd.ntmps45
      go_wp2_with (first | (go_at_call 72; refine (circle_Rest.calls _ _ _ HP.out).mono ?_; rintro e w' ⟨rfl, ⟨nd, rfl⟩⟩) | go_in)
      all_goals
        go_ret
        exact ⟨by rw [HR2.out]; rfl, ⟨_, rfl⟩⟩
    · have d2 : decide (16 < 64 - q) = false := decide_eq_false c2
      have HR2 : Aside0 (r = cosTab.getD (64 - q).toNat 0) := ⟨by rw [← HR.out, cosAt, if_pos c1, if_neg c2]⟩
      have hc := (cell (64 - q) (by omega) (by omega)).out
      have hb := rng (64 - q).toNat
      obtain ⟨v, hv⟩ : ∃ v, cosTab.getD (64 - q).toNat 0 = v := ⟨_, rfl⟩
      rw [hv] at hc hb HR2
      clear hv HR cell rng
      have hb0 := hb.1
      have hb1 := hb.2
      clear hb
      go_enter Tryd.func45, Tryd.ntmps45
      go_wp2_with (first | (go_at_call 72; refine (circle_Rest.calls _ _ _ HP.out).mono ?_; rintro e w' ⟨rfl, ⟨nd, rfl⟩⟩) | go_in)
      all_goals
        go_ret
        exact ⟨by rw [HR2.out]; rfl, ⟨_, rfl⟩⟩
  · have d1 : decide (32 < q) = false := decide_eq_false c1
    by_cases c2 : q > 16
    · have d2 : decide (16 < q) = true := decide_eq_true c2
      have HR2 : Aside0 (r = -(cosTab.getD (32 - q).toNat 0)) := ⟨by rw [← HR.out, cosAt, if_neg c1, if_pos c2]⟩
      have hc := (cell (32 - q) (by omega) (by omega)).out
      have hb := rng (32 - q).toNat
      obtain ⟨v, hv⟩ : ∃ v, cosTab.getD (32 - q).toNat 0 = v := ⟨_, rfl⟩
      rw [hv] at hc hb HR2
      clear hv HR cell rng
      have hb0 := hb.1
      have hb1 := hb.2
      clear hb
      go_enter Tryd.func45, Tryd.ntmps45
      go_wp2_with (first | (go_at_call 72; refine (circle_Rest.calls _ _ _ HP.out).mono ?_; rintro e w' ⟨rfl, ⟨nd, rfl⟩⟩) | go_in)
      all_goals
        go_ret
        exact ⟨by rw [HR2.out]; rfl, ⟨_, rfl⟩⟩
    · have d2 : decide (16 < q) = false := decide_eq_false c2
      have HR2 : Aside0 (r = cosTab.getD (q).toNat 0) := ⟨by rw [← HR.out, cosAt, if_neg c1, if_neg c2]⟩
      have hc := (cell (q) (by omega) (by omega)).out
      have hb := rng (q).toNat
      obtain ⟨v, hv⟩ : ∃ v, cosTab.getD (q).toNat 0 = v := ⟨_, rfl⟩
      rw [hv] at hc hb HR2
      clear hv HR cell rng
      have hb0 := hb.1
      have hb1 := hb.2
      clear hb
      go_enter Tryd.func45, Tryd.ntmps45
      go_wp2_with (first | (go_at_call 72; refine (circle_Rest.calls _ _ _ HP.out).mono ?_; rintro e w' ⟨rfl, ⟨nd, rfl⟩⟩) | go_in)
      all_goals
        go_ret
        exact ⟨by rw [HR2.out]; rfl, ⟨_, rfl⟩⟩

end Go.Proofs.YtmhacdnnnebpdaaDoor.PFrontTails
