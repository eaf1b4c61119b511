-- Written by a program of this work (wip/tools) for this claim; Lean checks it.
import Derived.Test.YtmhacdnnnebpdaaDoorPFrontStreamx5
namespace Go.Proofs.YtmhacdnnnebpdaaDoor.PFrontStream
open Go.RowKit Go.Proofs.YtmhacdnnnebpdaaDoorW.PrintWords Go.Proofs.YtmhacdnnnebpdaaDoorW.PrintLast Go.Proofs.YtmhacdnnnebpdaaDoorW.PrintMore
attribute [local go_sem] max2_int min2_int max_two min_two max_three min_three max_four min_four   -- for this text's walks alone
set_option linter.unusedVariables false
set_option linter.unusedSimpArgs false
def nearB (x : Int) : Bool := decide (-1073741824 ≤ x) && decide (x ≤ 1073741824)
def weightW (b low mid top : Int) : Int := if low ≤ b ∧ b < mid then 256 * (b - low) / (mid - low) else if mid ≤ b ∧ b < top then 256 * (top - b) / (top - mid) else 0
def weightF (b low mid top : Int) : Int := if nearB b = true ∧ nearB low = true ∧ nearB mid = true ∧ nearB top = true then weightW b low mid top else 0
def mel_Weight.f (a0 a1 a2 a3 : Int) : Option (Int) := some (weightF a0 a1 a2 a3)
theorem near_yes {x : Int} (h : nearB x = true) : -1073741824 ≤ x ∧ x ≤ 1073741824 := by simpa [nearB] using h
theorem near_no {x : Int} (h : ¬ nearB x = true) : decide (x < -1073741824) = true ∨ decide (x < -1073741824) = false ∧ decide (1073741824 < x) = true := by
 simp only [nearB, Bool.and_eq_true, decide_eq_true_eq, Classical.not_and_iff_not_or_not] at h
 simp only [decide_eq_true_eq, decide_eq_false_iff_not]
 omega
theorem near_dec {x : Int} (h : nearB x = true) : decide (x < -1073741824) = false ∧ decide (1073741824 < x) = false := by
 have := near_yes h
 simp only [decide_eq_false_iff_not]
 omega
set_option maxHeartbeats 16000000 in
theorem weight_near (b low mid top : Int) (w : World) (h0 : nearB b = true) (h1 : nearB low = true) (h2 : nearB mid = true) (h3 : nearB top = true) :
  Calls Tryd.prog 82 #[.int .i64 b, .int .i64 low, .int .i64 mid, .int .i64 top] w fun e w' => e = .returned (.int .i64 (weightW b low mid top)) ∧ w = w' := by
 have r0 := near_yes h0
 have r1 := near_yes h1
 have r2 := near_yes h2
 have r3 := near_yes h3
 obtain ⟨d0, e0⟩ := near_dec h0
 obtain ⟨d1, e1⟩ := near_dec h1
 obtain ⟨d2, e2⟩ := near_dec h2
 obtain ⟨d3, e3⟩ := near_dec h3
 have hcase : (low ≤ b ∧ b < mid ∧ weightW b low mid top = 256 * (b - low) / (mid - low)) ∨ (¬ (low ≤ b ∧ b < mid) ∧ mid ≤ b ∧ b < top ∧ weightW b low mid top = 256 * (top - b) / (top - mid)) ∨ (¬ (low ≤ b ∧ b < mid) ∧ ¬ (mid ≤ b ∧ b < top) ∧ weightW b low mid top = 0) := by
  unfold weightW
  by_cases c1 : low ≤ b ∧ b < mid
  · exact .inl ⟨c1.1, c1.2, if_pos c1⟩
  ·
   by_cases c2 : mid ≤ b ∧ b < top
   · exact .inr (.inl ⟨c1, c2.1, c2.2, by rw [if_neg c1, if_pos c2]⟩)
   · exact .inr (.inr ⟨c1, c2, by rw [if_neg c1, if_neg c2]⟩)
 have x0 : ∀ w : World, (Instr.index 102 (.agg #[.int .i64 b, .int .i64 low, .int .i64 mid, .int .i64 top]) (.int .i64 0)).run Tryd.prog w = .ok (.int .i64 b) w := fun _ => by kernel_rfl
 have x1 : ∀ w : World, (Instr.index 102 (.agg #[.int .i64 b, .int .i64 low, .int .i64 mid, .int .i64 top]) (.int .i64 1)).run Tryd.prog w = .ok (.int .i64 low) w := fun _ => by kernel_rfl
 have x2 : ∀ w : World, (Instr.index 102 (.agg #[.int .i64 b, .int .i64 low, .int .i64 mid, .int .i64 top]) (.int .i64 2)).run Tryd.prog w = .ok (.int .i64 mid) w := fun _ => by kernel_rfl
 have x3 : ∀ w : World, (Instr.index 102 (.agg #[.int .i64 b, .int .i64 low, .int .i64 mid, .int .i64 top]) (.int .i64 3)).run Tryd.prog w = .ok (.int .i64 top) w := fun _ => by kernel_rfl
 clear h0 h1 h2 h3
 rcases hcase with ⟨c1, c2, hv⟩ | ⟨c0, c1, c2, hv⟩ | ⟨c0, c1, hv⟩
 ·
  have HV := Aside0.mk hv
  have p1 : decide (low ≤ b) = true := decide_eq_true c1
  have p2 : decide (b < mid) = true := decide_eq_true c2
  have p3 : (mid - low == 0) = false := by simp; omega
  clear hv
  go_enter Tryd.func82, Tryd.ntmps82
  go_wp2
  go_loop [16] (fun v => ∃ n : Int, (n = 0 ∨ n = 1 ∨ n = 2 ∨ n = 3 ∨ n = 4) ∧ v = .int .i64 n) (fun v => 4 - (intOf v).toNat)
  case atStart => exact ⟨0, .inl rfl, rfl⟩
  case round =>
   obtain ⟨n, hn, rfl⟩ := hrel
   rcases hn with rfl | rfl | rfl | rfl | rfl
   ·
    go_wp2
    go_round
    case rel => exact ⟨1, .inr (.inl rfl), rfl⟩
    case measure => simp [intOf]
   ·
    go_wp2
    go_round
    case rel => exact ⟨2, .inr (.inr (.inl rfl)), rfl⟩
    case measure => simp [intOf]
   ·
    go_wp2
    go_round
    case rel => exact ⟨3, .inr (.inr (.inr (.inl rfl))), rfl⟩
    case measure => simp [intOf]
   ·
    go_wp2
    go_round
    case rel => exact ⟨4, .inr (.inr (.inr (.inr rfl))), rfl⟩
    case measure => simp [intOf]
   ·
    go_wp2
    go_ret
    exact ⟨by rw [HV.out]; rfl, rfl⟩
 ·
  have HV := Aside0.mk hv
  have p0 : decide (low ≤ b) = true ∧ decide (b < mid) = false ∨ decide (low ≤ b) = false := by
   simp only [decide_eq_true_eq, decide_eq_false_iff_not]; omega
  have p1 : decide (mid ≤ b) = true := decide_eq_true c1
  have p2 : decide (b < top) = true := decide_eq_true c2
  have p3 : (top - mid == 0) = false := by simp; omega
  clear hv c0
  rcases p0 with ⟨p5, p6⟩ | p5
  ·
   go_enter Tryd.func82, Tryd.ntmps82
   go_wp2
   go_loop [16] (fun v => ∃ n : Int, (n = 0 ∨ n = 1 ∨ n = 2 ∨ n = 3 ∨ n = 4) ∧ v = .int .i64 n) (fun v => 4 - (intOf v).toNat)
   case atStart => exact ⟨0, .inl rfl, rfl⟩
   case round =>
    obtain ⟨n, hn, rfl⟩ := hrel
    rcases hn with rfl | rfl | rfl | rfl | rfl
    ·
     go_wp2
     go_round
     case rel => exact ⟨1, .inr (.inl rfl), rfl⟩
     case measure => simp [intOf]
    ·
     go_wp2
     go_round
     case rel => exact ⟨2, .inr (.inr (.inl rfl)), rfl⟩
     case measure => simp [intOf]
    ·
     go_wp2
     go_round
     case rel => exact ⟨3, .inr (.inr (.inr (.inl rfl))), rfl⟩
     case measure => simp [intOf]
    ·
     go_wp2
     go_round
     case rel => exact ⟨4, .inr (.inr (.inr (.inr rfl))), rfl⟩
     case measure => simp [intOf]
    ·
     go_wp2
     go_ret
     exact ⟨by rw [HV.out]; rfl, rfl⟩
  ·
   go_enter Tryd.func82, Tryd.ntmps82
   go_wp2
   go_loop [16] (fun v => ∃ n : Int, (n = 0 ∨ n = 1 ∨ n = 2 ∨ n = 3 ∨ n = 4) ∧ v = .int .i64 n) (fun v => 4 - (intOf v).toNat)
   case atStart => exact ⟨0, .inl rfl, rfl⟩
   case round =>
    obtain ⟨n, hn, rfl⟩ := hrel
    rcases hn with rfl | rfl | rfl | rfl | rfl
    ·
     go_wp2
     go_round
     case rel => exact ⟨1, .inr (.inl rfl), rfl⟩
     case measure => simp [intOf]
    ·
     go_wp2
     go_round
     case rel => exact ⟨2, .inr (.inr (.inl rfl)), rfl⟩
     case measure => simp [intOf]
    ·
     go_wp2
     go_round
     case rel => exact ⟨3, .inr (.inr (.inr (.inl rfl))), rfl⟩
     case measure => simp [intOf]
    ·
     go_wp2
     go_round
     case rel => exact ⟨4, .inr (.inr (.inr (.inr rfl))), rfl⟩
     case measure => simp [intOf]
    ·
     go_wp2
     go_ret
     exact ⟨by rw [HV.out]; rfl, rfl⟩
 ·
  have HV := Aside0.mk hv
  have p0 : decide (low ≤ b) = true ∧ decide (b < mid) = false ∨ decide (low ≤ b) = false := by
   simp only [decide_eq_true_eq, decide_eq_false_iff_not]; omega
  have p1 : decide (mid ≤ b) = true ∧ decide (b < top) = false ∨ decide (mid ≤ b) = false := by
   simp only [decide_eq_true_eq, decide_eq_false_iff_not]; omega
  clear hv c0 c1
  rcases p0 with ⟨p5, p6⟩ | p5 <;> rcases p1 with ⟨p7, p8⟩ | p7
  ·
   go_enter Tryd.func82, Tryd.ntmps82
   go_wp2
   go_loop [16] (fun v => ∃ n : Int, (n = 0 ∨ n = 1 ∨ n = 2 ∨ n = 3 ∨ n = 4) ∧ v = .int .i64 n) (fun v => 4 - (intOf v).toNat)
   case atStart => exact ⟨0, .inl rfl, rfl⟩
   case round =>
    obtain ⟨n, hn, rfl⟩ := hrel
    rcases hn with rfl | rfl | rfl | rfl | rfl
    ·
     go_wp2
     go_round
     case rel => exact ⟨1, .inr (.inl rfl), rfl⟩
     case measure => simp [intOf]
    ·
     go_wp2
     go_round
     case rel => exact ⟨2, .inr (.inr (.inl rfl)), rfl⟩
     case measure => simp [intOf]
    ·
     go_wp2
     go_round
     case rel => exact ⟨3, .inr (.inr (.inr (.inl rfl))), rfl⟩
     case measure => simp [intOf]
    ·
     go_wp2
     go_round
     case rel => exact ⟨4, .inr (.inr (.inr (.inr rfl))), rfl⟩
     case measure => simp [intOf]
    ·
     go_wp2
     go_ret
     exact ⟨by rw [HV.out]; rfl, rfl⟩
  ·
   go_enter Tryd.func82, Tryd.ntmps82
   go_wp2
   go_loop [16] (fun v => ∃ n : Int, (n = 0 ∨ n = 1 ∨ n = 2 ∨ n = 3 ∨ n = 4) ∧ v = .int .i64 n) (fun v => 4 - (intOf v).toNat)
   case atStart => exact ⟨0, .inl rfl, rfl⟩
   case round =>
    obtain ⟨n, hn, rfl⟩ := hrel
    rcases hn with rfl | rfl | rfl | rfl | rfl
    ·
     go_wp2
     go_round
     case rel => exact ⟨1, .inr (.inl rfl), rfl⟩
     case measure => simp [intOf]
    ·
     go_wp2
     go_round
     case rel => exact ⟨2, .inr (.inr (.inl rfl)), rfl⟩
     case measure => simp [intOf]
    ·
     go_wp2
     go_round
     case rel => exact ⟨3, .inr (.inr (.inr (.inl rfl))), rfl⟩
     case measure => simp [intOf]
    ·
     go_wp2
     go_round
     case rel => exact ⟨4, .inr (.inr (.inr (.inr rfl))), rfl⟩
     case measure => simp [intOf]
    ·
     go_wp2
     go_ret
     exact ⟨by rw [HV.out]; rfl, rfl⟩
  ·
   go_enter Tryd.func82, Tryd.ntmps82
   go_wp2
   go_loop [16] (fun v => ∃ n : Int, (n = 0 ∨ n = 1 ∨ n = 2 ∨ n = 3 ∨ n = 4) ∧ v = .int .i64 n) (fun v => 4 - (intOf v).toNat)
   case atStart => exact ⟨0, .inl rfl, rfl⟩
   case round =>
    obtain ⟨n, hn, rfl⟩ := hrel
    rcases hn with rfl | rfl | rfl | rfl | rfl
    ·
     go_wp2
     go_round
     case rel => exact ⟨1, .inr (.inl rfl), rfl⟩
     case measure => simp [intOf]
    ·
     go_wp2
     go_round
     case rel => exact ⟨2, .inr (.inr (.inl rfl)), rfl⟩
     case measure => simp [intOf]
    ·
     go_wp2
     go_round
     case rel => exact ⟨3, .inr (.inr (.inr (.inl rfl))), rfl⟩
     case measure => simp [intOf]
    ·
     go_wp2
     go_round
     case rel => exact ⟨4, .inr (.inr (.inr (.inr rfl))), rfl⟩
     case measure => simp [intOf]
    ·
     go_wp2
     go_ret
     exact ⟨by rw [HV.out]; rfl, rfl⟩
  ·
   go_enter Tryd.func82, Tryd.ntmps82
   go_wp2
   go_loop [16] (fun v => ∃ n : Int, (n = 0 ∨ n = 1 ∨ n = 2 ∨ n = 3 ∨ n = 4) ∧ v = .int .i64 n) (fun v => 4 - (intOf v).toNat)
   case atStart => exact ⟨0, .inl rfl, rfl⟩
   case round =>
    obtain ⟨n, hn, rfl⟩ := hrel
    rcases hn with rfl | rfl | rfl | rfl | rfl
    ·
     go_wp2
     go_round
     case rel => exact ⟨1, .inr (.inl rfl), rfl⟩
     case measure => simp [intOf]
    ·
     go_wp2
     go_round
     case rel => exact ⟨2, .inr (.inr (.inl rfl)), rfl⟩
     case measure => simp [intOf]
    ·
     go_wp2
     go_round
     case rel => exact ⟨3, .inr (.inr (.inr (.inl rfl))), rfl⟩
     case measure => simp [intOf]
    ·
     go_wp2
     go_round
     case rel => exact ⟨4, .inr (.inr (.inr (.inr rfl))), rfl⟩
     case measure => simp [intOf]
    ·
     go_wp2
     go_ret
     exact ⟨by rw [HV.out]; rfl, rfl⟩
set_option maxHeartbeats 16000000 in
theorem weight_far (b low mid top : Int) (w : World) (K : Nat) (x : Int) (hK : K < 4) (hx : x = [b, low, mid, top].getD K 0) (hfar : ¬ nearB x = true) (hnear : ∀ j, j < K → nearB ([b, low, mid, top].getD j 0) = true) :
  Calls Tryd.prog 82 #[.int .i64 b, .int .i64 low, .int .i64 mid, .int .i64 top] w fun e w' => e = .returned (.int .i64 0) ∧ w = w' := by
 have x0 : ∀ w : World, (Instr.index 102 (.agg #[.int .i64 b, .int .i64 low, .int .i64 mid, .int .i64 top]) (.int .i64 0)).run Tryd.prog w = .ok (.int .i64 b) w := fun _ => by kernel_rfl
 have x1 : ∀ w : World, (Instr.index 102 (.agg #[.int .i64 b, .int .i64 low, .int .i64 mid, .int .i64 top]) (.int .i64 1)).run Tryd.prog w = .ok (.int .i64 low) w := fun _ => by kernel_rfl
 have x2 : ∀ w : World, (Instr.index 102 (.agg #[.int .i64 b, .int .i64 low, .int .i64 mid, .int .i64 top]) (.int .i64 2)).run Tryd.prog w = .ok (.int .i64 mid) w := fun _ => by kernel_rfl
 have x3 : ∀ w : World, (Instr.index 102 (.agg #[.int .i64 b, .int .i64 low, .int .i64 mid, .int .i64 top]) (.int .i64 3)).run Tryd.prog w = .ok (.int .i64 top) w := fun _ => by kernel_rfl
 have hf := near_no hfar
 have hK4 : K = 0 ∨ K = 1 ∨ K = 2 ∨ K = 3 := by omega
 rcases hK4 with rfl | rfl | rfl | rfl
 ·
  have hx' : x = b := hx
  subst hx'
  clear hx hfar hnear hK
  rcases hf with f1 | ⟨f1, f2⟩
  all_goals
   go_enter Tryd.func82, Tryd.ntmps82
   go_wp2
   go_loop [16] (fun v => ∃ n : Int, (n = 0) ∧ v = .int .i64 n) (fun v => 4 - (intOf v).toNat)
   case atStart => exact ⟨0, rfl, rfl⟩
   case round =>
    obtain ⟨n, hn, rfl⟩ := hrel
    rcases hn with rfl
    ·
     go_wp2
     go_ret
     exact ⟨rfl, rfl⟩
 ·
  have hx' : x = low := hx
  subst hx'
  obtain ⟨d0, e0⟩ := near_dec (hnear 0 (by decide))
  have d0' : decide (b < -1073741824) = false := d0
  have e0' : decide (1073741824 < b) = false := e0
  clear hx hfar hnear hK d0 e0
  rcases hf with f1 | ⟨f1, f2⟩
  all_goals
   go_enter Tryd.func82, Tryd.ntmps82
   go_wp2
   go_loop [16] (fun v => ∃ n : Int, (n = 0 ∨ n = 1) ∧ v = .int .i64 n) (fun v => 4 - (intOf v).toNat)
   case atStart => exact ⟨0, .inl rfl, rfl⟩
   case round =>
    obtain ⟨n, hn, rfl⟩ := hrel
    rcases hn with rfl | rfl
    ·
     go_wp2
     go_round
     case rel => exact ⟨1, .inr (rfl), rfl⟩
     case measure => simp [intOf]
    ·
     go_wp2
     go_ret
     exact ⟨rfl, rfl⟩
 ·
  have hx' : x = mid := hx
  subst hx'
  obtain ⟨d0, e0⟩ := near_dec (hnear 0 (by decide))
  have d0' : decide (b < -1073741824) = false := d0
  have e0' : decide (1073741824 < b) = false := e0
  obtain ⟨d1, e1⟩ := near_dec (hnear 1 (by decide))
  have d1' : decide (low < -1073741824) = false := d1
  have e1' : decide (1073741824 < low) = false := e1
  clear hx hfar hnear hK d0 e0 d1 e1
  rcases hf with f1 | ⟨f1, f2⟩
  all_goals
   go_enter Tryd.func82, Tryd.ntmps82
   go_wp2
   go_loop [16] (fun v => ∃ n : Int, (n = 0 ∨ n = 1 ∨ n = 2) ∧ v = .int .i64 n) (fun v => 4 - (intOf v).toNat)
   case atStart => exact ⟨0, .inl rfl, rfl⟩
   case round =>
    obtain ⟨n, hn, rfl⟩ := hrel
    rcases hn with rfl | rfl | rfl
    ·
     go_wp2
     go_round
     case rel => exact ⟨1, .inr (.inl rfl), rfl⟩
     case measure => simp [intOf]
    ·
     go_wp2
     go_round
     case rel => exact ⟨2, .inr (.inr (rfl)), rfl⟩
     case measure => simp [intOf]
    ·
     go_wp2
     go_ret
     exact ⟨rfl, rfl⟩
 ·
  have hx' : x = top := hx
  subst hx'
  obtain ⟨d0, e0⟩ := near_dec (hnear 0 (by decide))
  have d0' : decide (b < -1073741824) = false := d0
  have e0' : decide (1073741824 < b) = false := e0
  obtain ⟨d1, e1⟩ := near_dec (hnear 1 (by decide))
  have d1' : decide (low < -1073741824) = false := d1
  have e1' : decide (1073741824 < low) = false := e1
  obtain ⟨d2, e2⟩ := near_dec (hnear 2 (by decide))
  have d2' : decide (mid < -1073741824) = false := d2
  have e2' : decide (1073741824 < mid) = false := e2
  clear hx hfar hnear hK d0 e0 d1 e1 d2 e2
  rcases hf with f1 | ⟨f1, f2⟩
  all_goals
   go_enter Tryd.func82, Tryd.ntmps82
   go_wp2
   go_loop [16] (fun v => ∃ n : Int, (n = 0 ∨ n = 1 ∨ n = 2 ∨ n = 3) ∧ v = .int .i64 n) (fun v => 4 - (intOf v).toNat)
   case atStart => exact ⟨0, .inl rfl, rfl⟩
   case round =>
    obtain ⟨n, hn, rfl⟩ := hrel
    rcases hn with rfl | rfl | rfl | rfl
    ·
     go_wp2
     go_round
     case rel => exact ⟨1, .inr (.inl rfl), rfl⟩
     case measure => simp [intOf]
    ·
     go_wp2
     go_round
     case rel => exact ⟨2, .inr (.inr (.inl rfl)), rfl⟩
     case measure => simp [intOf]
    ·
     go_wp2
     go_round
     case rel => exact ⟨3, .inr (.inr (.inr (rfl))), rfl⟩
     case measure => simp [intOf]
    ·
     go_wp2
     go_ret
     exact ⟨rfl, rfl⟩
theorem mel_Weight.calls (a0 a1 a2 a3 : Int) (r : Int) (w : World) (h : mel_Weight.f a0 a1 a2 a3 = some r) :
  Calls Tryd.prog 82 #[.int .i64 a0, .int .i64 a1, .int .i64 a2, .int .i64 a3] w fun e w' => e = .returned (.int .i64 r) ∧ Drawn0 w w' := by
 obtain rfl := Option.some.inj h
 have key : Calls Tryd.prog 82 #[.int .i64 a0, .int .i64 a1, .int .i64 a2, .int .i64 a3] w fun e w' => e = .returned (.int .i64 (weightF a0 a1 a2 a3)) ∧ w = w' := by
  unfold weightF
  by_cases h0 : nearB a0 = true
  ·
   by_cases h1 : nearB a1 = true
   ·
    by_cases h2 : nearB a2 = true
    ·
     by_cases h3 : nearB a3 = true
     · rw [if_pos ⟨h0, h1, h2, h3⟩]; exact weight_near a0 a1 a2 a3 w h0 h1 h2 h3
     · rw [if_neg (fun h => h3 h.2.2.2)]; exact weight_far a0 a1 a2 a3 w 3 a3 (by decide) rfl h3 (fun j hj => by match j, hj with | 0, _ => exact h0 | 1, _ => exact h1 | 2, _ => exact h2)
    · rw [if_neg (fun h => h2 h.2.2.1)]; exact weight_far a0 a1 a2 a3 w 2 a2 (by decide) rfl h2 (fun j hj => by match j, hj with | 0, _ => exact h0 | 1, _ => exact h1)
   · rw [if_neg (fun h => h1 h.2.1)]; exact weight_far a0 a1 a2 a3 w 1 a1 (by decide) rfl h1 (fun j hj => by match j, hj with | 0, _ => exact h0)
  · rw [if_neg (fun h => h0 h.1)]; exact weight_far a0 a1 a2 a3 w 0 a0 (by decide) rfl h0 (fun j hj => by omega)
 exact key.mono fun e w' ⟨a, b⟩ => by
  subst b
  exact ⟨a, ⟨0, rfl⟩⟩
def bandS (p : List Int) (low mid top : Int) : Nat → Int
 | 0 => 0
 | n + 1 => wrap64 (bandS p low mid top n + wrap64 (p.getD n 0 * weightF (n : Int) low mid top))
def bandV (p : List Int) (low mid top : Int) : Int := bandS p low mid top p.length / 256
def bandsL (p e : List Int) : List Int := (List.range (e.length - 2)).map fun m => bandV p (e.getD m 0) (e.getD (m + 1) 0) (e.getD (m + 2) 0)
theorem bandS_in (p : List Int) (low mid top : Int) (n : Nat) : -9223372036854775808 ≤ bandS p low mid top n ∧ bandS p low mid top n ≤ 9223372036854775807 := by
 cases n with
 | zero => exact ⟨show (-9223372036854775808 : Int) ≤ 0 by decide, show (0 : Int) ≤ 9223372036854775807 by decide⟩
 | succ n => exact ⟨W_lo _, W_hi _⟩
theorem b_ad {w : World} {A : Option Addr} {n : Nat} {xs : List Int} (h : (Kd.int .i64).C w A n xs) (hn : 0 < n) : ∃ ad, A = some ad ∧ ∀ j : Nat, j < n → w.cell? (ad.add j) = some (.int .i64 (xs.getD j 0)) := by
 obtain ⟨ad, ha, _⟩ := Kd.at_int h 0 (by omega) (by omega)
 refine ⟨ad, ha, fun j hj => ?_⟩
 obtain ⟨ad2, ha2, h2⟩ := Kd.at_int h (j : Int) (by omega) (by omega)
 rw [ha] at ha2
 obtain rfl := Option.some.inj ha2
 rw [Int.toNat_natCast] at h2
 rw [h2, rd, Int.toNat_natCast]
theorem b_cell {w : World} {ad : Addr} {n : Nat} {xs : List Int} (h : (Kd.int .i64).C w (some ad) n xs) (j : Nat) (hj : j < n) : w.cell? (ad.add j) = some (.int .i64 (xs.getD j 0)) := by
 obtain ⟨ad2, ha, hw⟩ := b_ad h (by omega)
 obtain rfl := Option.some.inj ha
 exact hw j hj
theorem weight_c (b low mid top r : Int) (W : World) (hr : weightF b low mid top = r) : Calls Tryd.prog 82 #[.int .i64 b, .int .i64 low, .int .i64 mid, .int .i64 top] W fun e w' => e = .returned (.int .i64 r) ∧ Drawn0 W w' := by
 subst hr
 exact mel_Weight.calls b low mid top _ W rfl
set_option maxHeartbeats 8000000 in
theorem band_c (g : Nat) (A : Option Addr) (n c : Nat) (p : List Int) (low mid top : Int) (w : World) (hg : w.heap[g]? = some (.cells #[.slice A n c] 22 (0, 0))) (hl : p.length = n) (hC : (Kd.int .i64).C w A n p) (hn : n ≤ 1000000) :
  Calls Tryd.prog 81 #[.int .i64 low, .int .i64 mid, .int .i64 top, .pointer (some ⟨g, 0, none⟩)] w fun e w' => e = .returned (.int .i64 (bandV p low mid top)) ∧ Drawn0 w w' := by
 have hc := cell_of_one hg
 have HC := Aside0.mk hC
 have HL := Aside0.mk hl
 clear hg hC hl
 go_enter Tryd.func81, Tryd.ntmps81
 go_wp2
 go_loopw [8, 15] (fun v8 v wr => ∃ (i : Nat), i ≤ n ∧ v = .int .i64 (i : Int) ∧ v8 = .int .i64 (bandS p low mid top i) ∧ Aside0 (∃ k, wr = w.drewN k)) (fun _ v _ => n - (intOf v).toNat)
 case atStart => exact ⟨0, by omega, rfl, rfl, ⟨⟨0, rfl⟩⟩⟩
 case round =>
  obtain ⟨i, hi, rfl, rfl, HK⟩ := hrel
  obtain ⟨k, rfl⟩ := HK.out
  by_cases hlt : i < n
  ·
   obtain ⟨ad, rfl, hcs⟩ := b_ad HC.out (by omega)
   have hcell := b_cell HC.out i hlt
   obtain ⟨x, hx⟩ : ∃ x, p.getD i 0 = x := ⟨_, rfl⟩
   obtain ⟨s, hs⟩ : ∃ s, bandS p low mid top i = s := ⟨_, rfl⟩
   obtain ⟨q, hq⟩ : ∃ q, weightF (i : Int) low mid top = q := ⟨_, rfl⟩
   have HN : Aside0 (bandS p low mid top (i + 1) = wrap64 (s + wrap64 (x * q))) := ⟨by rw [bandS, hs, hx, hq]⟩
   have HQ := Aside0.mk hq
   rw [hx] at hcell
   rw [hs]
   clear hcs hx hs hq hc
   go_wp2_with (go_at_call 82; (with_reducible refine (weight_c (i : Int) low mid top q _ HQ.out).mono ?_); rintro e w' ⟨rfl, ⟨nd, rfl⟩⟩)
   go_roundw
   case rel => exact ⟨i + 1, by omega, by go_num, by rw [HN.out], ⟨⟨_, rfl⟩⟩⟩
   case measure => simp [intOf]; omega
  ·
   obtain rfl : n = i := by omega
   obtain ⟨s, hs⟩ : ∃ s, bandS p low mid top n = s := ⟨_, rfl⟩
   have hb := bandS_in p low mid top n
   rw [hs] at hb ⊢
   have HP := Aside0.mk (prt_some hb (n := 256) (by decide) (by decide))
   have HV : Aside0 (bandV p low mid top = s / 256) := ⟨by unfold bandV; rw [HL.out, hs]⟩
   clear hs hc hb
   go_wp2_with (go_at_call 83; (with_reducible refine (round_Parts.calls _ _ _ _ _ HP.out).mono ?_); rintro e w' ⟨rfl, ⟨nd, rfl⟩⟩)
   go_ret
   exact ⟨by rw [HV.out]; rfl, ⟨⟨_, rfl⟩⟩⟩
theorem add_block (ad : Addr) (j : Nat) : (ad.add j).block = ad.block := by unfold Addr.add; split <;> rfl
theorem far_add {W W1 : World} {row : Option Nat} (h : W.grownBy W1 row) (ad : Addr) (j : Nat) (hl : ad.block < W.heap.size) (hne : row ≠ some ad.block) : W1.cell? (ad.add j) = W.cell? (ad.add j) :=
 h.cell_far _ (by rw [add_block]; exact hl) (by rw [add_block]; exact Ne.symm hne)
theorem far_at {W W1 : World} {row : Option Nat} (h : W.grownBy W1 row) (ad : Addr) (o : Nat) (hl : ad.block < W.heap.size) (hne : row ≠ some ad.block) : W1.cell? ⟨ad.block, o, none⟩ = W.cell? ⟨ad.block, o, none⟩ :=
 h.cell_far _ hl (Ne.symm hne)
def mel_Bands.f (l0 l1 : List Int) : Option (List Int) := if decide (l0.length ≤ 1000000) && decide (l1.length ≤ 1000000) then some (bandsL l0 l1) else none
set_option maxHeartbeats 16000000 in
set_option maxRecDepth 100000 in
theorem bands_go (A0 A1 : Option Addr) (n c0 m c1 : Nat) (p e : List Int) (w : World) (hl : p.length = n) (hC : (Kd.int .i64).C w A0 n p) (hn : n ≤ 1000000) (hl1 : e.length = m) (hC1 : (Kd.int .i64).C w A1 m e) (hm : m ≤ 1000000) :
  Calls Tryd.prog 51 #[.slice A0 n c0, .slice A1 m c1] w fun e_ w' => ∃ v0_ : Value, e_ = .returned v0_ ∧ Kd.R (Kd.int .i64) 3 w' w.heap.size (fun _ => True) v0_ (bandsL p e) ∧ Below w.heap.size w w' := by
 have hmf : ∀ (fn : Fn) (first cap : Array Value) (w : World), (Instr.makeFunc fn first cap).run Tryd.prog w = .ok (.func fn first cap) w := fun _ _ _ _ => rfl
 have HC0 := Aside0.mk hC
 have HC1 := Aside0.mk hC1
 have HL0 := Aside0.mk hl
 have HL1 := Aside0.mk hl1
 obtain ⟨i0, hi0, hz0, hz1, hz2⟩ := info_parts turn_info
 by_cases h2 : m < 2
 ·
  have HE : Aside0 (bandsL p e = []) := ⟨by unfold bandsL; rw [hl1, show m - 2 = 0 by omega]; rfl⟩
  clear hl hC hl1 hC1
  go_enter Tryd.func51, Tryd.ntmps51
  go_wp2
  go_loopw [5, 13] (fun v5 v wr => v5 = .slice none 0 0 ∧ v = .int .i64 0 ∧ Aside0 (Below w.heap.size w wr)) (fun _ _ _ => 0)
  case atStart => exact ⟨rfl, rfl, ⟨below_alloc (Below.refl _ _) _⟩⟩
  case round =>
   obtain ⟨rfl, rfl, HB⟩ := hrel
   go_wp2
   go_ret
   exact ⟨_, rfl, by rw [HE.out]; exact Kd.R_nil _ _ _ _ _, HB.out⟩
 ·
  obtain ⟨K, rfl⟩ : ∃ K, m = K + 2 := ⟨m - 2, by omega⟩
  have HM : Aside0 (∀ i, i < K → (bandsL p e).getD i 0 = bandV p (e.getD i 0) (e.getD (i + 1) 0) (e.getD (i + 2) 0)) := ⟨fun i hi => by
   unfold bandsL
   exact getD_map_range (e.length - 2) (fun m : Nat => bandV p (e.getD m 0) (e.getD (m + 1) 0) (e.getD (m + 2) 0)) i (by omega)⟩
  have HBL : Aside0 ((bandsL p e).length = K) := ⟨by unfold bandsL; rw [List.length_map, List.length_range]; omega⟩
  have hk2 : ((K + 2 : Nat) : Int) - 2 = (K : Int) := by omega
  clear hl hC hl1 hC1 h2
  go_enter Tryd.func51, Tryd.ntmps51
  go_wp2
  go_loopw [5, 13] (fun v5 v wr => ∃ (i : Nat) (xs : List Int), i ≤ K ∧ v = .int .i64 (i : Int) ∧ Aside0 (xs.length = i) ∧ Aside0 (∀ j, j < i → xs.getD j 0 = (bandsL p e).getD j 0) ∧ Aside0 (wr.ownsRow (w.heap.size + 1) 3 1 v5 i (nums .i64 xs)) ∧ Aside0 (wr.heap[w.heap.size]? = some (.cells #[.slice A0 n c0] 22 (0, 0))) ∧ Aside0 (Below w.heap.size w wr)) (fun _ v _ => K - (intOf v).toNat)
  case atStart => exact ⟨0, [], by omega, rfl, ⟨rfl⟩, ⟨fun j hj => by omega⟩, ⟨own_nil _ _ _ _⟩, ⟨heap_alloc_new w _⟩, ⟨below_alloc (Below.refl _ _) _⟩⟩
  case round =>
   obtain ⟨i, xs, hi, rfl, HX, HJ, HO, HG, HB⟩ := hrel
   by_cases hlt : i < K
   ·
    have hC1 := Kd.C_below HC1.out HB.out
    obtain ⟨ad, rfl, _⟩ := b_ad hC1 (by omega)
    have k0 := b_cell hC1 i (by omega)
    have k1 := b_cell hC1 (i + 1) (by omega)
    have k2 := b_cell hC1 (i + 2) (by omega)
    rw [show ad.add (i + 1) = ⟨ad.block, ad.off + (i + 1), none⟩ by simp [Addr.add]] at k1
    rw [show ad.add (i + 2) = ⟨ad.block, ad.off + (i + 2), none⟩ by simp [Addr.add]] at k2
    obtain ⟨a, ha⟩ : ∃ a, e.getD i 0 = a := ⟨_, rfl⟩
    obtain ⟨b, hb⟩ : ∃ b, e.getD (i + 1) 0 = b := ⟨_, rfl⟩
    obtain ⟨d, hd⟩ : ∃ d, e.getD (i + 2) 0 = d := ⟨_, rfl⟩
    have HV : Aside0 ((bandsL p e).getD i 0 = bandV p a b d) := ⟨by rw [HM.out i hlt, ha, hb, hd]⟩
    rw [ha] at k0
    rw [hb] at k1
    rw [hd] at k2
    have j0 : (0 : Int) ≤ (i : Int) := by omega
    have j1 : (i : Int) < (K : Int) + 2 := by omega
    have j2 : (0 : Int) ≤ (i : Int) + 1 := by omega
    have j3 : (i : Int) + 1 < (K : Int) + 2 := by omega
    have j4 : (0 : Int) ≤ (i : Int) + 2 := by omega
    have j5 : (i : Int) + 2 < (K : Int) + 2 := by omega
    have i1 : ((i : Int) + 1).toNat = i + 1 := by omega
    have i2 : ((i : Int) + 2).toNat = i + 2 := by omega
    have i3 : IntKind.i64.wrap ((i : Int) + 1) = (i : Int) + 1 := by rw [IntKind.wrap_i64]; omega
    have i4 : IntKind.i64.wrap ((i : Int) + 2) = (i : Int) + 2 := by rw [IntKind.wrap_i64]; omega
    have hCp := Aside0.mk (Kd.C_below HC0.out HB.out)
    have hadw : ad.block < w.heap.size := by rw [← add_block ad i]; exact World.block_lt_of_cell? w _ (b_cell HC1.out i (by omega))
    have hadr : ad.block < wr.heap.size := Nat.lt_of_lt_of_le hadw HB.out.size
    have hne : u5.ownBlock ≠ some ad.block := fun h => by have := own_base HO.out ad.block h; omega
    clear ha hb hd hC1
    go_wp2
    go_region_held3 (fun w' => w'.cell? (ad.add i) = some (.int .i64 a) ∧ w'.cell? ⟨ad.block, ad.off + (i + 1), none⟩ = some (.int .i64 b) ∧ w'.cell? ⟨ad.block, ad.off + (i + 2), none⟩ = some (.int .i64 d))
     (first
      | go_keep
      | (go_split_ands
         refine ⟨?_, ?_, ?_⟩
         · (rw [far_add hgrow ad i (by simp; omega) hne]; assumption)
         · (rw [far_at hgrow ad _ (by simp; omega) hne]; assumption)
         · (rw [far_at hgrow ad _ (by simp; omega) hne]; assumption)))
     (first
      | (go_at_call 81; refine (band_c w.heap.size A0 n c0 p a b d _ (by exact HG.out) HL0.out (by repeat (first | exact hCp.out | refine Kd.C_drewN ?_ _ | refine Kd.C_drew ?_)) hn).mono ?_; rintro e w' ⟨rfl, ⟨nd, rfl⟩⟩)
      | (refine step_append_lies _ (by rfl) _ _ _ (by rfl) (w.heap.size + 1) 3 i0 _ 1 8 Tryd.underlying22 hi0 hz0 hz1 hz2 rfl (by omega) u5 i (nums .i64 xs) (by rfl) (pw_own_below HO.out (by repeat (first | exact Below.refl _ _ | apply below_alloc | apply pw_below_drewN | apply below_drew1))) ⟨wr.heap.size, 0, none⟩ 1 1 [.int .i64 (bandV p a b d)] (by rfl) (by rfl) (World.news_of_block (heap_alloc_new _ _)) (by simp [Value.oneCell']) (by omega) (by unfold maxLen; omega) (by omega) (by have := HB.out.size; simp; omega) (wr.heap.size + 1) (by simp) ?_; intro g cap w1 hown1 hgrow hat hlt2))
    go_wp2
    go_roundw
    case rel =>
     refine ⟨i + 1, xs ++ [bandV p a b d], by omega, by go_num, ⟨by rw [List.length_append, HX.out]; rfl⟩, ⟨?_⟩, ⟨?_⟩, ⟨?_⟩, ⟨?_⟩⟩
     ·
      intro j hj
      by_cases h : j = i
      ·
       subst h
       rw [HV.out, List.getD_eq_getElem?_getD, List.getElem?_append_right (by rw [HX.out]; exact Nat.le_refl _), HX.out, Nat.sub_self]; rfl
      ·
       have := HJ.out j (by omega)
       rw [List.getD_eq_getElem?_getD] at this ⊢
       rw [List.getElem?_append_left (by rw [HX.out]; omega), this]
     ·
      have : nums .i64 xs ++ [.int .i64 (bandV p a b d)] = nums .i64 (xs ++ [bandV p a b d]) := by simp [nums]
      rw [← this]
      exact hown1
     ·
      have h1 := hgrow.block w.heap.size (by have := HB.out.size; have := blk_lt HG.out; simp; omega) (fun h => by have := own_base HO.out w.heap.size h.symm; omega)
      rw [h1]
      have hA : ∀ (X : World) (o : Obj), X.heap[w.heap.size]? = some (.cells #[.slice A0 n c0] 22 (0, 0)) → (X.alloc o).heap[w.heap.size]? = some (.cells #[.slice A0 n c0] 22 (0, 0)) := fun X o h => by rw [Below.heap_alloc _ _ _ (blk_lt h)]; exact h
      repeat (first | exact HG.out | apply hA | (show (World.heap (World.drewN _ _))[_]? = _; exact HG.out))
     · exact Below.grown (by repeat (first | exact HB.out | apply below_alloc | apply pw_below_drewN | apply below_drew1)) hgrow (by have := HB.out.size; simp; omega) (fun k hk => by have := own_base HO.out k hk; omega)
    case measure => simp [intOf]; omega
   ·
    obtain rfl : K = i := by omega
    go_wp2
    go_ret
    refine ⟨_, rfl, ?_, HB.out⟩
    have hU : xs = bandsL p e := row_ext (by rw [HX.out, HBL.out]) (fun j hj => by rw [HX.out] at hj; exact HJ.out j hj)
    rw [← hU]
    exact Kd.R_of_own (enc := Value.int .i64) (h1 := fun _ => rfl) (ok := fun _ => True) (xs := xs) (by rw [HX.out]; exact own_weaken HO.out (by omega)) (fun _ _ => trivial)
theorem mel_Bands.calls (A0 : Option Addr) (c0 : Nat) (l0 : List Int) (A1 : Option Addr) (c1 : Nat) (l1 : List Int) (r : List Int) (w : World) (hr0 : Kd.C (Kd.int .i64) w A0 l0.length l0) (hc0 : l0.length ≤ c0) (hr1 : Kd.C (Kd.int .i64) w A1 l1.length l1) (hc1 : l1.length ≤ c1) (h : mel_Bands.f l0 l1 = some r) :
  Calls Tryd.prog 51 #[.slice A0 l0.length c0, .slice A1 l1.length c1] w fun e w' => ∃ v0_ : Value, e = .returned v0_ ∧ Kd.R (Kd.int .i64) 3 w' w.heap.size (fun _ => True) v0_ r ∧ Below w.heap.size w w' := by
 unfold mel_Bands.f at h
 split at h
 case isFalse => cases h
 rename_i hz
 obtain rfl := Option.some.inj h
 simp only [Bool.and_eq_true, decide_eq_true_eq] at hz
 exact bands_go A0 A1 _ c0 _ c1 l0 l1 w rfl hr0 hz.1 rfl hr1 hz.2
def powL (a b : List Int) : List Int := List.zipWith (fun x y => wrap64 (wrap64 (x * x) + wrap64 (y * y))) a b
theorem powL_length {a b : List Int} (h : a.length = b.length) : (powL a b).length = a.length := by unfold powL; rw [List.length_zipWith]; omega
theorem powL_getD {a b : List Int} (h : a.length = b.length) (i : Nat) (hi : i < a.length) : (powL a b).getD i 0 = wrap64 (wrap64 (a.getD i 0 * a.getD i 0) + wrap64 (b.getD i 0 * b.getD i 0)) := zip_getD (fun x y => wrap64 (wrap64 (x * x) + wrap64 (y * y))) i hi (by omega)
def fft_Power.f (l0 l1 : List Int) : Option (List Int) := if decide (l0.length = l1.length) && decide (l0.length ≤ 1000) then some (powL l0 l1) else none
set_option maxHeartbeats 16000000 in
theorem power_go (A0 A1 : Option Addr) (n c0 c1 : Nat) (a b : List Int) (w : World) (ha : a.length = n) (hb : b.length = n) (hn : n ≤ 1000) (hC : (Kd.int .i64).C w A0 n a) (hC1 : (Kd.int .i64).C w A1 n b) :
  Calls Tryd.prog 52 #[.slice A0 n c0, .slice A1 n c1] w fun e w' => ∃ v0_ : Value, e = .returned v0_ ∧ Kd.R (Kd.int .i64) 3 w' w.heap.size (fun _ => True) v0_ (powL a b) ∧ Below w.heap.size w w' := by
 have hmk := print_make 22 3 .i64 8 Tryd.underlying22 turn_info (by decide) n (by omega)
 have HC := Aside0.mk hC
 have HC1 := Aside0.mk hC1
 have HPL : Aside0 ((powL a b).length = n) := ⟨by rw [powL_length (by omega)]; exact ha⟩
 have HPV : Aside0 (∀ i, i < n → (powL a b).getD i 0 = wrap64 (wrap64 (a.getD i 0 * a.getD i 0) + wrap64 (b.getD i 0 * b.getD i 0))) := ⟨fun i hi => powL_getD (by omega) i (by omega)⟩
 clear hC hC1 ha hb
 go_enter Tryd.func52, Tryd.ntmps52
 go_wp2
 go_loopw [15] (fun v wr => ∃ (i : Nat) (xs : List Int), i ≤ n ∧ v = .int .i64 (i : Int) ∧ Aside0 (xs.length = n) ∧ Aside0 (∀ j, j < i → xs.getD j 0 = (powL a b).getD j 0) ∧ Aside0 (wr.ownsRow w.heap.size 3 1 (.slice (some ⟨w.heap.size, 0, none⟩) n n) n (nums .i64 xs)) ∧ Aside0 (Below w.heap.size w wr)) (fun v _ => n - (intOf v).toNat)
 case atStart =>
  refine ⟨0, List.replicate n 0, by omega, rfl, ⟨by simp⟩, ⟨fun j hj => absurd hj (by omega)⟩, ⟨?_⟩, ⟨by repeat (first | exact Below.refl _ _ | apply below_alloc | apply pw_below_drewN)⟩⟩
  exact own_made w w.heap.size 3 .i64 n (Nat.le_refl _) (by omega)
 case round =>
  obtain ⟨i, xs, hi, rfl, HX, HJ, HO, HB⟩ := hrel
  by_cases hlt : i < n
  ·
   obtain ⟨ad0, rfl, hcs0⟩ := sp_ad (Kd.C_below HC.out HB.out) (by omega)
   obtain ⟨ad1, rfl, hcs1⟩ := sp_ad (Kd.C_below HC1.out HB.out) (by omega)
   have d0 := hcs0 i hlt
   have d1 := hcs1 i hlt
   obtain ⟨x, hx⟩ : ∃ x, a.getD i 0 = x := ⟨_, rfl⟩
   obtain ⟨y, hy⟩ : ∃ y, b.getD i 0 = y := ⟨_, rfl⟩
   have HV := Aside0.mk (HPV.out i hlt)
   rw [hx, hy] at HV
   rw [hx] at d0
   rw [hy] at d1
   obtain ⟨⟨z, hz⟩, hfr⟩ := own_free HO.out i hlt
   have j0 : (0 : Int) ≤ (i : Int) := by omega
   have j1 : (i : Int) < (n : Int) := by omega
   clear hcs0 hcs1 hx hy
   go_wp2
   go_region
   all_goals
    go_wp2
    go_roundw
    case rel =>
     have hst := own_store HO.out (i : Int) (wrap64 (wrap64 (x * x) + wrap64 (y * y)))
     rw [Int.toNat_natCast] at hst
     refine ⟨i + 1, _, by omega, by go_num, ⟨by rw [List.length_set]; exact HX.out⟩, ⟨fun j hj => ?_⟩, ⟨hst.1⟩, ⟨below_drew1 (Below.grown HB.out hst.2 HB.out.size (fun k hk => by injection hk with hk; omega))⟩⟩
     by_cases e : j = i
     ·
      subst e
      rw [HV.out, List.getD_eq_getElem?_getD, List.getElem?_set_self (by rw [HX.out]; omega), Option.getD_some]
     ·
      rw [List.getD_eq_getElem?_getD, List.getElem?_set_ne (fun h => e h.symm), ← List.getD_eq_getElem?_getD]
      exact HJ.out j (by omega)
    case measure => simp [intOf]; omega
  ·
   obtain rfl : n = i := by omega
   go_wp2
   go_ret
   have hU : xs = powL a b := row_ext (by rw [HX.out, HPL.out]) (fun j hj => by rw [HX.out] at hj; exact HJ.out j hj)
   rw [← hU]
   exact ⟨_, rfl, Kd.R_of_own (enc := Value.int .i64) (h1 := fun _ => rfl) (ok := fun _ => True) (xs := xs) (by rw [HX.out]; exact HO.out) (fun _ _ => trivial), HB.out⟩
theorem fft_Power.calls (A0 : Option Addr) (c0 : Nat) (l0 : List Int) (A1 : Option Addr) (c1 : Nat) (l1 : List Int) (r : List Int) (w : World) (hr0 : Kd.C (Kd.int .i64) w A0 l0.length l0) (hc0 : l0.length ≤ c0) (hr1 : Kd.C (Kd.int .i64) w A1 l1.length l1) (hc1 : l1.length ≤ c1) (h : fft_Power.f l0 l1 = some r) :
  Calls Tryd.prog 52 #[.slice A0 l0.length c0, .slice A1 l1.length c1] w fun e w' => ∃ v0_ : Value, e = .returned v0_ ∧ Kd.R (Kd.int .i64) 3 w' w.heap.size (fun _ => True) v0_ r ∧ Below w.heap.size w w' := by
 unfold fft_Power.f at h
 split at h
 case isFalse => cases h
 rename_i hz
 obtain rfl := Option.some.inj h
 simp only [Bool.and_eq_true, decide_eq_true_eq] at hz
 rw [← hz.1] at hr1 ⊢
 exact power_go A0 A1 _ c0 c1 l0 l1 w rfl hz.1.symm hz.2 hr0 hr1
def mel_High.f (k : Nat) (a0 : Int) : Option (Int) := if a0 < 0 then (some 0) else (if a0 > 64 then (some 0) else ((logs_Log.f k (IntKind.u64.wrap (wrap64 (64 + (wrap64 (8 * a0)))))).bind fun t119 => (some (wrap64 (t119 - 1536)))))
set_option maxHeartbeats 8000000 in
set_option maxRecDepth 100000 in
theorem mel_High.calls (k : Nat) (a0 : Int) (r : Int) (w : World) (h : mel_High.f k a0 = some r) :
  Calls Tryd.prog 84 #[.int .i64 a0] w fun e w' => e = .returned (.int .i64 r) ∧ Drawn0 w w' := by
 have H : (if a0 < 0 then (some 0) else (if a0 > 64 then (some 0) else ((logs_Log.f k (IntKind.u64.wrap (wrap64 (64 + (wrap64 (8 * a0)))))).bind fun t119 => (some (wrap64 (t119 - 1536)))))) = some r := h
 clear h
 by_cases c2 : a0 < 0
 ·
  rw [if_pos c2] at H
  have c2b0 : decide (a0 < 0) = true := decide_eq_true c2
  clear c2
  obtain rfl := Option.some.inj H
  go_enter Tryd.func84, Tryd.ntmps84
  go_wp2
  go_ret
  exact ⟨by first | rfl | (simp; done) | (simp [*]; done), by repeat (first | exact Drawn0.refl _ | apply Drawn0.step)⟩
 ·
  rw [if_neg c2] at H
  have c2b0 : decide (a0 < 0) = false := decide_eq_false c2
  clear c2
  by_cases c3 : a0 > 64
  ·
   rw [if_pos c3] at H
   have c3b0 : decide (64 < a0) = true := decide_eq_true c3
   clear c3
   obtain rfl := Option.some.inj H
   go_enter Tryd.func84, Tryd.ntmps84
   go_wp2
   go_ret
   exact ⟨by first | rfl | (simp; done) | (simp [*]; done), by repeat (first | exact Drawn0.refl _ | apply Drawn0.step)⟩
  ·
   rw [if_neg c3] at H
   have c3b0 : decide (64 < a0) = false := decide_eq_false c3
   clear c3
   replace H := Option.bind_eq_some_iff.mp H
   obtain ⟨t119, A40, H⟩ := H
   replace H : (some (wrap64 (t119 - 1536))) = some r := H
   have A4 := Aside0.mk A40
   clear A40
   obtain rfl := Option.some.inj H
   go_enter Tryd.func84, Tryd.ntmps84
   go_wp2_with (first | ((with_reducible refine gate_callee (f := 40) rfl ?_); refine goesL_ (some 13) rfl rfl Tryd.func40 (by kernel_rfl) rfl #[.int .u64 (IntKind.u64.wrap (wrap64 (64 + (wrap64 (8 * a0)))))] rfl (by (try simp only [List.map_toArray, List.map_cons, List.map_nil]); first | done | rfl | (simp only [List.length_drop, List.length_take]; rfl)) ?_; (with_reducible refine (logs_Log.calls k (IntKind.u64.wrap (wrap64 (64 + (wrap64 (8 * a0))))) t119 _ A4.out).mono ?_); rintro e w' ⟨rfl, ⟨nd, rfl⟩⟩; refine ⟨_, rfl, ?_⟩))
   go_ret
   exact ⟨by first | rfl | (simp; done) | (simp [*]; done), by repeat (first | exact Drawn0.refl _ | apply Drawn0.step)⟩
def hiTab : List Int := [0, 43, 82, 117, 149, 179, 206, 232, 256, 278, 299, 319, 338, 356, 373, 390, 405, 420, 435, 449, 462, 475, 488, 500, 512, 523, 534, 545, 555, 565, 575, 585, 594, 603, 612, 621, 629, 637, 646, 653, 661, 669, 676, 684, 691, 698, 705, 712, 718, 725, 731, 737, 744, 750, 756, 762, 768, 773, 779, 784, 790, 795, 801, 806, 811]
def hiN (b : Nat) : Int := hiTab.getD b 0
theorem hi_fin : ∀ b : Fin 65, mel_High.f 30 ((b.1 : Nat) : Int) = some (hiN b.1) := by decide +kernel
theorem hi_some {b : Nat} (h : b ≤ 64) : mel_High.f 30 (b : Int) = some (hiN b) := hi_fin ⟨b, by omega⟩
theorem hi_bd_fin : ∀ b : Fin 65, 0 ≤ hiN b.1 ∧ hiN b.1 ≤ 10000 := by decide +kernel
theorem hi_bd {b : Nat} (h : b ≤ 64) : 0 ≤ hiN b ∧ hiN b ≤ 10000 := hi_bd_fin ⟨b, by omega⟩
def leastF (t c : Int) : Nat → Nat → Nat
 | 0, b => b
 | f + 1, b => if hiN b * c < t then leastF t c f (b + 1) else b
def edgeOf (n c m : Nat) : Nat := leastF ((m : Int) * hiN (n - 1)) (c : Int) 64 0
theorem leastF_spec (t c : Int) : ∀ f b, (∀ j, b ≤ j → j < leastF t c f b → hiN j * c < t) ∧ b ≤ leastF t c f b ∧ leastF t c f b ≤ b + f ∧ (leastF t c f b < b + f → ¬ hiN (leastF t c f b) * c < t)
 | 0, b => ⟨fun j h1 h2 => by rw [leastF] at h2; omega, Nat.le_refl _, Nat.le_refl _, fun h => by rw [leastF] at h; omega⟩
 | f + 1, b => by
   rw [leastF]
   by_cases h : hiN b * c < t
   ·
    rw [if_pos h]
    obtain ⟨a1, a2, a3, a4⟩ := leastF_spec t c f (b + 1)
    refine ⟨fun j h1 h2 => ?_, by omega, by omega, fun hlt => a4 (by omega)⟩
    by_cases e : j = b
    · rw [e]; exact h
    · exact a1 j (by omega) h2
   ·
    rw [if_neg h]
    exact ⟨fun j h1 h2 => by omega, Nat.le_refl _, by omega, fun _ => h⟩
theorem edge_spec {n c m : Nat} (h2 : 2 ≤ n) (h65 : n ≤ 65) (hm : m ≤ c) : (∀ j, j < edgeOf n c m → hiN j * (c : Int) < (m : Int) * hiN (n - 1)) ∧ edgeOf n c m ≤ n - 1 ∧ ¬ hiN (edgeOf n c m) * (c : Int) < (m : Int) * hiN (n - 1) := by
 obtain ⟨a1, a2, a3, a4⟩ := leastF_spec ((m : Int) * hiN (n - 1)) (c : Int) 64 0
 have htop : ¬ hiN (n - 1) * (c : Int) < (m : Int) * hiN (n - 1) := by
  have h0 := (hi_bd (b := n - 1) (by omega)).1
  have : (m : Int) * hiN (n - 1) ≤ (c : Int) * hiN (n - 1) := Int.mul_le_mul_of_nonneg_right (by omega) h0
  rw [Int.mul_comm (hiN (n - 1))]; omega
 have hle : edgeOf n c m ≤ n - 1 := by
  rcases Nat.lt_or_ge (n - 1) (edgeOf n c m) with h | h
  · exact absurd (a1 (n - 1) (Nat.zero_le _) h) htop
  · exact h
 refine ⟨fun j hj => a1 j (Nat.zero_le _) hj, hle, ?_⟩
 rcases Nat.lt_or_ge (edgeOf n c m) 64 with h | h
 · exact a4 (by show leastF _ _ 64 0 < 0 + 64; exact (by have := h; unfold edgeOf at this; omega))
 ·
  have : edgeOf n c m = n - 1 := by omega
  rw [this]; exact htop
theorem edge_mono {n c m : Nat} (h2 : 2 ≤ n) (h65 : n ≤ 65) (hm : m + 1 ≤ c) : edgeOf n c m ≤ edgeOf n c (m + 1) := by
 obtain ⟨_, _, b3⟩ := edge_spec (m := m + 1) h2 h65 hm
 obtain ⟨a1, _, _⟩ := edge_spec (n := n) (c := c) (m := m) h2 h65 (by omega)
 rcases Nat.lt_or_ge (edgeOf n c (m + 1)) (edgeOf n c m) with h | h
 ·
  exfalso
  apply b3
  have h1 := a1 _ h
  have h0 := (hi_bd (b := n - 1) (by omega)).1
  have : ((m + 1 : Nat) : Int) * hiN (n - 1) = (m : Int) * hiN (n - 1) + hiN (n - 1) := by rw [Int.natCast_succ, Int.add_mul]; omega
  omega
 · exact h
def edgesL (n c : Nat) : List Int := (List.range (c + 1)).map fun m => ((edgeOf n c m : Nat) : Int)
def mayE (bins bands : Int) : Bool := decide (2 ≤ bins) && decide (bins ≤ 65) && decide (1 ≤ bands) && decide (bands ≤ 16)
def edgesF (bins bands : Int) : List Int := if mayE bins bands = true then edgesL bins.toNat (bands.toNat + 1) else []
def mel_Edges.f (a0 a1 : Int) : Option (List Int) := some (edgesF a0 a1)
theorem high_c (b : Nat) (r : Int) (W : World) (hb : b ≤ 64) (hr : hiN b = r) : Calls Tryd.prog 84 #[.int .i64 (b : Int)] W fun e w' => e = .returned (.int .i64 r) ∧ Drawn0 W w' := by
 subst hr
 exact mel_High.calls 30 (b : Int) (hiN b) W (hi_some hb)
set_option maxHeartbeats 16000000 in
theorem edges_yes (n B : Nat) (w : World) (h2 : 2 ≤ n) (h65 : n ≤ 65) (b1 : 1 ≤ B) (b16 : B ≤ 16) :
  Calls Tryd.prog 53 #[.int .i64 (n : Int), .int .i64 (B : Int)] w fun e w' => ∃ v0_ : Value, e = .returned v0_ ∧ Kd.R (Kd.int .i64) 3 w' w.heap.size (fun _ => True) v0_ (edgesL n (B + 1)) ∧ Below w.heap.size w w' := by
 obtain ⟨N1, hN1⟩ : ∃ N1 : Nat, n = N1 + 1 := ⟨n - 1, by omega⟩
 subst hN1
 obtain ⟨T, hT⟩ : ∃ T, hiN N1 = T := ⟨_, rfl⟩
 have HS : Aside0 (∀ m, m ≤ B + 1 → (∀ j, j < edgeOf (N1 + 1) (B + 1) m → hiN j * ((B + 1 : Nat) : Int) < (m : Int) * T) ∧ edgeOf (N1 + 1) (B + 1) m ≤ N1 ∧ (m : Int) * T ≤ hiN (edgeOf (N1 + 1) (B + 1) m) * ((B + 1 : Nat) : Int)) :=
  ⟨fun m hm => by have := edge_spec (n := N1 + 1) h2 h65 hm; rw [Nat.add_sub_cancel, hT] at this; exact ⟨this.1, this.2.1, Int.not_lt.1 this.2.2⟩⟩
 have HM : Aside0 (∀ m, m + 1 ≤ B + 1 → edgeOf (N1 + 1) (B + 1) m ≤ edgeOf (N1 + 1) (B + 1) (m + 1)) := ⟨fun m hm => edge_mono h2 h65 hm⟩
 have hTb := hi_bd (b := N1) (by omega)
 rw [hT] at hTb
 have HT := Aside0.mk hT
 have hmk := print_make 22 3 .i64 8 Tryd.underlying22 turn_info (by decide) (B + 2) (by omega)
 have hcast : ((B + 2 : Nat) : Int) = (B : Int) + 2 := by omega
 rw [hcast] at hmk
 have hn1 : ((N1 + 1 : Nat) : Int) = (N1 : Int) + 1 := by omega
 rw [hn1]
 clear hT hcast hn1
 go_enter Tryd.func53, Tryd.ntmps53
 go_wp2_with (go_at_call 84; (with_reducible refine (high_c N1 T _ (by omega) HT.out).mono ?_); rintro e w' ⟨rfl, ⟨nd, rfl⟩⟩)
 go_loopw [7, 31] (fun v7 v wr => ∃ (m b : Nat) (xs : List Int), v = .int .i64 (m : Int) ∧ v7 = .int .i64 (b : Int) ∧ m ≤ B + 2 ∧ b ≤ N1 ∧ Aside0 (m ≤ B + 1 → b ≤ edgeOf (N1 + 1) (B + 1) m) ∧ Aside0 (xs.length = B + 2) ∧ Aside0 (∀ j, j < m → xs.getD j 0 = ((edgeOf (N1 + 1) (B + 1) j : Nat) : Int)) ∧ Aside0 (wr.ownsRow w.heap.size 3 1 (.slice (some ⟨w.heap.size, 0, none⟩) (B + 2) (B + 2)) (B + 2) (nums .i64 xs)) ∧ Aside0 (Below w.heap.size w wr)) (fun _ v _ => B + 2 - (intOf v).toNat)
 case atStart =>
  refine ⟨0, 0, List.replicate (B + 2) 0, rfl, rfl, by omega, by omega, ⟨fun _ => Nat.zero_le _⟩, ⟨by simp⟩, ⟨fun j hj => by omega⟩, ⟨?_⟩, ⟨by repeat (first | exact Below.refl _ _ | apply below_alloc | apply pw_below_drewN)⟩⟩
  exact own_made (w.drewN nd) w.heap.size 3 .i64 (B + 2) (Nat.le_refl _) (by omega)
 case round =>
  obtain ⟨m, b, xs, rfl, rfl, hm, hb, HE, HX, HJ, HO, HB⟩ := hrel
  by_cases hlt : m < B + 2
  ·
   obtain ⟨E, hE⟩ : ∃ E, edgeOf (N1 + 1) (B + 1) m = E := ⟨_, rfl⟩
   obtain ⟨s1, s2, s3⟩ := HS.out m (by omega)
   have hbE := HE.out (by omega)
   rw [hE] at s1 s2 s3 hbE
   have HEE := Aside0.mk hE
   obtain ⟨P, hP⟩ : ∃ P, (m : Int) * T = P := ⟨_, rfl⟩
   have hP2 : 0 ≤ P ∧ P ≤ 170000 := by
    rw [← hP]
    exact ⟨Int.mul_nonneg (by omega) hTb.1, Int.le_trans (Int.mul_le_mul_of_nonneg_left hTb.2 (by omega)) (by omega)⟩
   have hPw : wrap64 ((m : Int) * T) = P := by rw [hP]; exact W_in (by omega) (by omega)
   have S1 : Aside0 (∀ j, j < E → hiN j * ((B : Int) + 1) < P) := ⟨fun j hj => by have := s1 j hj; rw [hP] at this; rw [show ((B : Int) + 1) = ((B + 1 : Nat) : Int) by omega]; exact this⟩
   have S3 : Aside0 (P ≤ hiN E * ((B : Int) + 1)) := ⟨by rw [hP] at s3; rw [show ((B : Int) + 1) = ((B + 1 : Nat) : Int) by omega]; exact s3⟩
   clear s1 s3 hE hP
   obtain ⟨⟨y, hy⟩, hfr⟩ := own_free HO.out m hlt
   have hdm : decide ((m : Int) < (B : Int) + 2) = true := decide_eq_true (by omega)
   go_wp2
   go_loopw [7] (fun v7 wr2 => ∃ (b' : Nat), v7 = .int .i64 (b' : Int) ∧ b' ≤ E ∧ Aside0 (∃ k, wr2 = wr.drewN k)) (fun v7 _ => E - (intOf v7).toNat)
   case atStart => exact ⟨b, rfl, hbE, ⟨⟨0, rfl⟩⟩⟩
   case round =>
    obtain ⟨b', rfl, hbb, HK⟩ := hrel
    obtain ⟨k, rfl⟩ := HK.out
    obtain ⟨hv, hhv⟩ : ∃ hv, hiN b' = hv := ⟨_, rfl⟩
    have hvb := hi_bd (b := b') (by omega)
    rw [hhv] at hvb
    have HHV := Aside0.mk hhv
    have hq : 0 ≤ hv * ((B : Int) + 1) ∧ hv * ((B : Int) + 1) ≤ 170000 :=
     ⟨Int.mul_nonneg hvb.1 (by omega), Int.le_trans (Int.mul_le_mul_of_nonneg_right hvb.2 (by omega)) (by omega)⟩
    obtain ⟨Q, hQ⟩ : ∃ Q, hv * ((B : Int) + 1) = Q := ⟨_, rfl⟩
    have hQw : wrap64 (hv * ((B : Int) + 1)) = Q := by rw [hQ] at hq ⊢; exact W_in (by omega) (by omega)
    have hcmp : (b' < E → decide (Q < P) = true) ∧ (b' = E → decide (Q < P) = false) := by
     refine ⟨fun h => decide_eq_true ?_, fun h => decide_eq_false ?_⟩
     · have := S1.out b' h; rwa [hhv, hQ] at this
     · have := S3.out; rw [← h, hhv, hQ] at this; omega
    clear hhv hQ hq
    by_cases hlt2 : b' < E
    ·
     have hd := hcmp.1 hlt2
     clear hcmp
     go_wp2_with (go_at_call 84; (with_reducible refine (high_c b' hv _ (by omega) HHV.out).mono ?_); rintro e w' ⟨rfl, ⟨nd2, rfl⟩⟩)
     go_roundw
     case rel => exact ⟨b' + 1, by go_num, by omega, ⟨⟨_, rfl⟩⟩⟩
     case measure => simp [intOf]; omega
    ·
     have hd := hcmp.2 (by omega)
     obtain rfl : E = b' := by omega
     clear hcmp
     go_wp2_with (go_at_call 84; (with_reducible refine (high_c E hv _ (by omega) HHV.out).mono ?_); rintro e w' ⟨rfl, ⟨nd2, rfl⟩⟩)
     go_roundw
     case rel =>
      have HO2 : (wr.drewN (k + nd2)).ownsRow w.heap.size 3 1 (.slice (some ⟨w.heap.size, 0, none⟩) (B + 2) (B + 2)) (B + 2) (nums .i64 xs) := pw_own_below HO.out (pw_below_drewN (Below.refl _ _) _)
      have HB2 : Below w.heap.size w (wr.drewN (k + nd2)) := pw_below_drewN HB.out _
      have hst := own_store HO2 (m : Int) (E : Int)
      rw [Int.toNat_natCast] at hst
      refine ⟨m + 1, E, _, by go_num, rfl, by omega, by omega, ⟨fun h => by have := HM.out m h; rw [HEE.out] at this; exact this⟩, ⟨by rw [List.length_set, HX.out]⟩, ⟨?_⟩, ⟨hst.1⟩, ⟨Below.grown HB2 hst.2 HB2.size (fun k hk => by injection hk with hk; omega)⟩⟩
      intro j hj
      by_cases e : j = m
      ·
       subst e
       rw [List.getD_eq_getElem?_getD, List.getElem?_set_self (by rw [HX.out]; exact hlt), HEE.out]; rfl
      ·
       have := HJ.out j (by omega)
       rw [List.getD_eq_getElem?_getD] at this ⊢
       rw [List.getElem?_set_ne (fun h => e h.symm)]
       exact this
     case measure => simp [intOf]; omega
  ·
   obtain rfl : m = B + 2 := by omega
   go_wp2
   go_ret
   refine ⟨_, rfl, ?_, HB.out⟩
   have hU : xs = edgesL (N1 + 1) (B + 1) := by
    refine row_ext (by rw [HX.out]; simp [edgesL]) (fun j hj => ?_)
    rw [HX.out] at hj
    rw [HJ.out j hj]
    exact (getD_map_range (B + 1 + 1) (fun m : Nat => ((edgeOf (N1 + 1) (B + 1) m : Nat) : Int)) j (by omega)).symm
   rw [← hU]
   exact Kd.R_of_own (enc := Value.int .i64) (h1 := fun _ => rfl) (ok := fun _ => True) (xs := xs) (by rw [HX.out]; exact HO.out) (fun _ _ => trivial)
theorem edges_no (a0 a1 : Int) (w : World) (h : mayE a0 a1 = false) :
  Calls Tryd.prog 53 #[.int .i64 a0, .int .i64 a1] w fun e w' => ∃ v0_ : Value, e = .returned v0_ ∧ Kd.R (Kd.int .i64) 3 w' w.heap.size (fun _ => True) v0_ [] ∧ Below w.heap.size w w' := by
 have hc : decide (a0 < 2) = true ∨ decide (a0 < 2) = false ∧ decide (65 < a0) = true ∨ decide (a0 < 2) = false ∧ decide (65 < a0) = false ∧ decide (a1 < 1) = true ∨ decide (a0 < 2) = false ∧ decide (65 < a0) = false ∧ decide (a1 < 1) = false ∧ decide (16 < a1) = true := by
  by_cases c1 : a0 < 2
  · exact .inl (decide_eq_true c1)
  by_cases c2 : 65 < a0
  · exact .inr (.inl ⟨decide_eq_false c1, decide_eq_true c2⟩)
  by_cases c3 : a1 < 1
  · exact .inr (.inr (.inl ⟨decide_eq_false c1, decide_eq_false c2, decide_eq_true c3⟩))
  by_cases c4 : 16 < a1
  · exact .inr (.inr (.inr ⟨decide_eq_false c1, decide_eq_false c2, decide_eq_false c3, decide_eq_true c4⟩))
  ·
   exfalso
   have : mayE a0 a1 = true := by unfold mayE; simp only [Bool.and_eq_true, decide_eq_true_eq]; omega
   rw [this] at h; cases h
 clear h
 rcases hc with c1 | ⟨c1, c2⟩ | ⟨c1, c2, c3⟩ | ⟨c1, c2, c3, c4⟩
 all_goals
  go_enter Tryd.func53, Tryd.ntmps53
  go_wp2
  go_ret
  exact ⟨_, rfl, Kd.R_nil _ _ _ _ _, Below.refl _ _⟩
theorem mel_Edges.calls (a0 a1 : Int) (r : List Int) (w : World) (h : mel_Edges.f a0 a1 = some r) :
  Calls Tryd.prog 53 #[.int .i64 a0, .int .i64 a1] w fun e w' => ∃ v0_ : Value, e = .returned v0_ ∧ Kd.R (Kd.int .i64) 3 w' w.heap.size (fun _ => True) v0_ r ∧ Below w.heap.size w w' := by
 obtain rfl := Option.some.inj h
 unfold edgesF
 by_cases hm : mayE a0 a1 = true
 ·
  rw [if_pos hm]
  simp only [mayE, Bool.and_eq_true, decide_eq_true_eq] at hm
  obtain ⟨n, rfl⟩ := Int.eq_ofNat_of_zero_le (show 0 ≤ a0 by omega)
  obtain ⟨B, rfl⟩ := Int.eq_ofNat_of_zero_le (show 0 ≤ a1 by omega)
  exact edges_yes n B w (by omega) (by omega) (by omega) (by omega)
 ·
  rw [if_neg hm]
  exact edges_no a0 a1 w (by simpa using hm)
end Go.Proofs.YtmhacdnnnebpdaaDoor.PFrontStream
