-- Written by a program of this work (wip/tools) for this claim; Lean checks it.
import Derived.Test.YtphmfecabbellaaDoorPFftBinsx0
import Derived.Test.YtphmfecabbellaaDoorPFftBinsx7
namespace Go.Proofs.YtphmfecabbellaaDoor.PFftBins
open Go.RowKit Go.Proofs.YtphmfecabbellaaDoorW.PrintWords Go.Proofs.YtphmfecabbellaaDoorW.PrintLast Go.Proofs.YtphmfecabbellaaDoorW.PrintMore
attribute [local go_sem] max2_int min2_int max_two min_two max_three min_three max_four min_four   -- for this text's walks alone
set_option linter.unusedVariables false
set_option linter.unusedSimpArgs false

/-! ### earshotref02_power: function 68 -/
def earshotref02_power.l0 : Nat → Int → Int → Int → Option (Int)
  | 0, _, _, _ => none
  | k + 1, x0, x3, x4 => if x4 < x0 then (earshotref02_power.l0 k x0 (wrap64 (x3 * 2)) (wrap64 (x4 + 1))) else (some x3)
def earshotref02_power.f (k : Nat) (a0 : Int) : Option (Int) := earshotref02_power.l0 k a0 1 0
theorem earshotref02_power.mono_l : ∀ k, (∀ y0 y1 y2, LeO (earshotref02_power.l0 k y0 y1 y2) (earshotref02_power.l0 (k + 1) y0 y1 y2))
  | 0 => fun _ _ _ r h => by simp [earshotref02_power.l0] at h
  | k + 1 => by
    have ih0 := earshotref02_power.mono_l k
    · intro y0 y1 y2
      unfold earshotref02_power.l0
      repeat' first
      | (with_reducible exact ih0 _ _ _)
      | (with_reducible exact LeO.refl _)
      | (with_reducible exact LeO.none _)
      | (with_reducible refine LeO.ite ?_ ?_)
      | (with_reducible refine LeO.bind ?_ (fun _ => ?_))
      | exact ih0 _ _ _
      | exact LeO.none _
      | refine LeO.ite ?_ ?_
      | refine LeO.bind ?_ (fun _ => ?_)
theorem earshotref02_power.mono : ∀ a0 k, LeO (earshotref02_power.f k a0) (earshotref02_power.f (k + 1) a0) := by
  intro a0 k
  have ih0 := earshotref02_power.mono_l k
  unfold earshotref02_power.f
  repeat' first
      | (with_reducible exact ih0 _ _ _)
      | (with_reducible exact LeO.refl _)
      | (with_reducible exact LeO.none _)
      | (with_reducible refine LeO.ite ?_ ?_)
      | (with_reducible refine LeO.bind ?_ (fun _ => ?_))
      | exact ih0 _ _ _
      | exact LeO.none _
      | refine LeO.ite ?_ ?_
      | refine LeO.bind ?_ (fun _ => ?_)
set_option maxHeartbeats 8000000 in
set_option maxRecDepth 100000 in
theorem earshotref02_power.calls (k : Nat) (a0 : Int) (r : Int) (w : World) (h : earshotref02_power.f k a0 = some r) :
    Calls Tryd.prog 68 #[.int .i64 a0] w fun e w' => e = .returned (.int .i64 r) ∧ Drawn0 w w' := by
  have H : (earshotref02_power.l0 k a0 1 0) = some r := h
  clear h
  have H' := Aside0.mk H
  clear H
  go_enter Tryd.func68, Tryd.ntmps68
  go_wp2
  go_loopg [3, 4] k (fun kq v3 v4 w' => ∃ (x3_1 : Int) (x4_1 : Int), v3 = .int .i64 x3_1 ∧ v4 = .int .i64 x4_1 ∧ Aside0 (earshotref02_power.l0 kq a0 x3_1 x4_1 = some r) ∧ Aside0 (kq ≤ k) ∧ Drawn0 w w')
  case atStart => exact ⟨(1), (0), (by first | rfl | (simp; done) | (simp [*]; done)), (by first | rfl | (simp; done) | (simp [*]; done)), H', ⟨Nat.le_refl _⟩, by repeat (first | exact Drawn0.refl _ | apply Drawn0.step)⟩
  case round =>
    clear H'
    obtain ⟨x3_1, x4_1, rfl, rfl, HA, HK1, ⟨m1, rfl⟩⟩ := hrel
    cases gk with
    | zero => exact absurd HA.out (by simp [earshotref02_power.l0])
    | succ k1 =>
      have H := HA.out
      clear HA
      simp only [earshotref02_power.l0] at H
      by_cases c2 : x4_1 < a0
      · rw [if_pos c2] at H
        have c2b0 : decide (x4_1 < a0) = true := decide_eq_true c2
        clear c2
        have H' := Aside0.mk H
        clear H
        go_wp2
        go_roundg k1
        case measure => have := HK1.out; omega
        case rel => exact ⟨(wrap64 (x3_1 * 2)), (wrap64 (x4_1 + 1)), (by first | rfl | (simp; done) | (simp [*]; done)), (by first | rfl | (simp; done) | (simp [*]; done)), H', ⟨by have := HK1.out; omega⟩, by repeat (first | exact Drawn0.refl _ | apply Drawn0.step)⟩
      · rw [if_neg c2] at H
        have c2b0 : decide (x4_1 < a0) = false := decide_eq_false c2
        clear c2
        obtain rfl := Option.some.inj H
        go_wp2
        go_ret
        exact ⟨by first | rfl | (simp; done) | (simp [*]; done), by repeat (first | exact Drawn0.refl _ | apply Drawn0.step)⟩

/-! ### earshotref02_Half: function 61 -/
def earshotref02_Half.j0 : Nat → Int → Int → Bool → Option (Int)
  | 0, _, _, _ => none
  | k + 1, x0, x1, x10 => if x10 = true then (some 0) else ((earshotref02_power.f k x1).bind fun t144 => ((earshotref02_Div.f x0 t144).bind fun t145 => (some t145)))
def earshotref02_Half.f (k : Nat) (a0 : Int) (a1 : Int) : Option (Int) := if a1 < 0 then (earshotref02_Half.j0 k a0 a1 true) else (earshotref02_Half.j0 k a0 a1 (decide (a1 > 62)))
theorem earshotref02_Half.mono_l : ∀ k, (∀ y0 y1 y2, LeO (earshotref02_Half.j0 k y0 y1 y2) (earshotref02_Half.j0 (k + 1) y0 y1 y2))
  | 0 => fun _ _ _ r h => by simp [earshotref02_Half.j0] at h
  | k + 1 => by
    have ih0 := earshotref02_Half.mono_l k
    · intro y0 y1 y2
      unfold earshotref02_Half.j0
      repeat' first
      | (with_reducible exact ih0 _ _ _)
      | (with_reducible exact earshotref02_power.mono _ _)
      | (with_reducible exact LeO.refl _)
      | (with_reducible exact LeO.none _)
      | (with_reducible refine LeO.ite ?_ ?_)
      | (with_reducible refine LeO.bind ?_ (fun _ => ?_))
      | exact ih0 _ _ _
      | exact earshotref02_power.mono _ _
      | exact LeO.none _
      | refine LeO.ite ?_ ?_
      | refine LeO.bind ?_ (fun _ => ?_)
theorem earshotref02_Half.mono : ∀ a0 a1 k, LeO (earshotref02_Half.f k a0 a1) (earshotref02_Half.f (k + 1) a0 a1) := by
  intro a0 a1 k
  have ih0 := earshotref02_Half.mono_l k
  unfold earshotref02_Half.f
  repeat' first
      | (with_reducible exact ih0 _ _ _)
      | (with_reducible exact earshotref02_power.mono _ _)
      | (with_reducible exact LeO.refl _)
      | (with_reducible exact LeO.none _)
      | (with_reducible refine LeO.ite ?_ ?_)
      | (with_reducible refine LeO.bind ?_ (fun _ => ?_))
      | exact ih0 _ _ _
      | exact earshotref02_power.mono _ _
      | exact LeO.none _
      | refine LeO.ite ?_ ?_
      | refine LeO.bind ?_ (fun _ => ?_)
set_option maxHeartbeats 8000000 in
set_option maxRecDepth 100000 in
theorem earshotref02_Half.calls (k : Nat) (a0 : Int) (a1 : Int) (r : Int) (w : World) (h : earshotref02_Half.f k a0 a1 = some r) :
    Calls Tryd.prog 61 #[.int .i64 a0, .int .i64 a1] w fun e w' => e = .returned (.int .i64 r) ∧ Drawn0 w w' := by
  have H : (if a1 < 0 then (earshotref02_Half.j0 k a0 a1 true) else (earshotref02_Half.j0 k a0 a1 (decide (a1 > 62)))) = some r := h
  clear h
  have HC3 := Aside0.mk H
  clear H
  go_enter Tryd.func61, Tryd.ntmps61
  go_upto_region 1 with (fail)
  go_cut [10] (fun v10 wc => ∃ (kq : Nat) (x10_2 : Bool), v10 = .bool x10_2 ∧ Aside0 (earshotref02_Half.j0 kq a0 a1 x10_2 = some r) ∧ Aside0 (kq ≤ k) ∧ Drawn0 w wc)
  case first =>
    have H := HC3.out
    clear HC3
    by_cases c4 : a1 < 0
    · rw [if_pos c4] at H
      have c4b0 : decide (a1 < 0) = true := decide_eq_true c4
      clear c4
      (first | rw [c4b0] | (simp only [i64_w, i32_w]; rw [c4b0]) | skip)
      have H' := Aside0.mk H
      clear H
      go_wp2
      go_meet
      case rel => exact ⟨_, (true), (by first | rfl | (simp; done) | (simp [*]; done)), H', ⟨by first | omega | exact Nat.le_refl _⟩, by repeat (first | exact Drawn0.refl _ | apply Drawn0.step)⟩
    · rw [if_neg c4] at H
      have c4b0 : decide (a1 < 0) = false := decide_eq_false c4
      clear c4
      (first | rw [c4b0] | (simp only [i64_w, i32_w]; rw [c4b0]) | skip)
      have H' := Aside0.mk H
      clear H
      go_wp2
      go_meet
      case rel => exact ⟨_, (decide (a1 > 62)), (by first | rfl | (simp; done) | (simp [*]; done)), H', ⟨by first | omega | exact Nat.le_refl _⟩, by repeat (first | exact Drawn0.refl _ | apply Drawn0.step)⟩
  case rest =>
    clear HC3
    try clear p2
    try clear c4
    try clear c4b0
    obtain ⟨kq, x10_2, rfl, HA, HJ2, ⟨mc2, rfl⟩⟩ := hcut
    cases kq with
    | zero => exact absurd HA.out (by simp [earshotref02_Half.j0])
    | succ kj2 =>
      have H := HA.out
      clear HA
      simp only [earshotref02_Half.j0] at H
      by_cases c5 : x10_2 = true
      · subst c5
        have H1 : (some 0) = some r := by rw [if_pos rfl] at H; exact H
        clear H
        have H := H1
        clear H1
        obtain rfl := Option.some.inj H
        go_wp2
        go_ret
        exact ⟨by first | rfl | (simp; done) | (simp [*]; done), by repeat (first | exact Drawn0.refl _ | apply Drawn0.step)⟩
      · replace c5 := Bool.eq_false_iff.mpr c5
        subst c5
        have H1 : ((earshotref02_power.f kj2 a1).bind fun t144 => ((earshotref02_Div.f a0 t144).bind fun t145 => (some t145))) = some r := by rw [if_neg (show ¬ (false = true) by decide)] at H; exact H
        clear H
        have H := H1
        clear H1
        replace H := Option.bind_eq_some_iff.mp H
        obtain ⟨t144, A60, H⟩ := H
        replace H : ((earshotref02_Div.f a0 t144).bind fun t145 => (some t145)) = some r := H
        have A6 := Aside0.mk A60
        clear A60
        replace H := Option.bind_eq_some_iff.mp H
        obtain ⟨t145, A70, H⟩ := H
        replace H : (some t145) = some r := H
        have A7 := Aside0.mk A70
        clear A70
        obtain rfl := Option.some.inj H
        go_wp2_with (first | ((with_reducible refine gate_callee (f := 68) rfl ?_); refine goesL_ (some 13) rfl rfl Tryd.func68 (by kernel_rfl) rfl #[.int .i64 a1] rfl (by (try simp only [List.map_toArray, List.map_cons, List.map_nil]); first | done | rfl | (simp only [List.length_drop, List.length_take]; rfl)) ?_; (with_reducible refine (earshotref02_power.calls kj2 a1 t144 _ A6.out).mono ?_); rintro e w' ⟨rfl, ⟨nd, rfl⟩⟩; refine ⟨_, rfl, ?_⟩) | ((with_reducible refine gate_callee (f := 67) rfl ?_); refine goesL_ (some 14) rfl rfl Tryd.func67 (by kernel_rfl) rfl #[.int .i64 a0, .int .i64 t144] rfl (by (try simp only [List.map_toArray, List.map_cons, List.map_nil]); first | done | rfl | (simp only [List.length_drop, List.length_take]; rfl)) ?_; (with_reducible refine (earshotref02_Div.calls a0 t144 t145 _ A7.out).mono ?_); rintro e w' ⟨rfl, ⟨nd, rfl⟩⟩; refine ⟨_, rfl, ?_⟩))
        go_ret
        exact ⟨by first | rfl | (simp; done) | (simp [*]; done), by repeat (first | exact Drawn0.refl _ | apply Drawn0.step)⟩

end Go.Proofs.YtphmfecabbellaaDoor.PFftBins
