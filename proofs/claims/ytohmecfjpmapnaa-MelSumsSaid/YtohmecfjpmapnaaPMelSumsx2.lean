-- Written by a program of this work (wip/tools) for this claim; Lean checks it.
import Derived.Test.YtohmecfjpmapnaaPMelSumsx0
import Derived.Test.YtohmecfjpmapnaaPMelSumsx1
namespace Go.Proofs.Ytohmecfjpmapnaa.PMelSums
open Go.RowKit Go.Proofs.YtohmecfjpmapnaaW.PrintWords Go.Proofs.YtohmecfjpmapnaaW.PrintLast Go.Proofs.YtohmecfjpmapnaaW.PrintMore
attribute [local go_sem] max2_int min2_int max_two min_two max_three min_three max_four min_four   -- for this text's walks alone
set_option linter.unusedVariables false
set_option linter.unusedSimpArgs false

/-! ### mel_Weight: function 14 -/
def nearB (x : Int) : Bool := decide (-1073741824 ≤ x) && decide (x ≤ 1073741824)
def weightW (b low mid top : Int) : Int := if low ≤ b ∧ b < mid then 256 * (b - low) / (mid - low) else if mid ≤ b ∧ b < top then 256 * (top - b) / (top - mid) else 0
def weightF (b low mid top : Int) : Int := if nearB b = true ∧ nearB low = true ∧ nearB mid = true ∧ nearB top = true then weightW b low mid top else 0
def mel_Weight.f (a0 a1 a2 a3 : Int) : Option (Int) := some (weightF a0 a1 a2 a3)
theorem near_yes {x : Int} (h : nearB x = true) : -1073741824 ≤ x ∧ x ≤ 1073741824 := by simpa [nearB] using h
theorem near_no {x : Int} (h : ¬ nearB x = true) : decide (x < -1073741824) = true ∨ decide (x < -1073741824) = false ∧ decide (1073741824 < x) = true := by
  simp only [nearB, Bool.and_eq_true, decide_eq_true_eq, Classical.not_and_iff_not_or_not] at h
  simp only [decide_eq_true_eq, decide_eq_false_iff_not]
  omega
theorem near_dec {x : Int} (h : nearB x = true) : decide (x < -1073741824) = false ∧ decide (1073741824 < x) = false := by
  have := near_yes h
  simp only [decide_eq_false_iff_not]
  omega
set_option maxHeartbeats 16000000 in
theorem weight_near (b low mid top : Int) (w : World) (h0 : nearB b = true) (h1 : nearB low = true) (h2 : nearB mid = true) (h3 : nearB top = true) :
    Calls Try.prog 14 #[.int .i64 b, .int .i64 low, .int .i64 mid, .int .i64 top] w fun e w' => e = .returned (.int .i64 (weightW b low mid top)) ∧ w = w' := by
  have r0 := near_yes h0
  have r1 := near_yes h1
  have r2 := near_yes h2
  have r3 := near_yes h3
  obtain ⟨d0, e0⟩ := near_dec h0
  obtain ⟨d1, e1⟩ := near_dec h1
  obtain ⟨d2, e2⟩ := near_dec h2
  obtain ⟨d3, e3⟩ := near_dec h3
  have hcase : (low ≤ b ∧ b < mid ∧ weightW b low mid top = 256 * (b - low) / (mid - low)) ∨ (¬ (low ≤ b ∧ b < mid) ∧ mid ≤ b ∧ b < top ∧ weightW b low mid top = 256 * (top - b) / (top - mid)) ∨ (¬ (low ≤ b ∧ b < mid) ∧ ¬ (mid ≤ b ∧ b < top) ∧ weightW b low mid top = 0) := by
    unfold weightW
    by_cases c1 : low ≤ b ∧ b < mid
    · exact .inl ⟨c1.1, c1.2, if_pos c1⟩
    · by_cases c2 : mid ≤ b ∧ b < top
      · exact .inr (.inl ⟨c1, c2.1, c2.2, by rw [if_neg c1, if_pos c2]⟩)
      · exact .inr (.inr ⟨c1, c2, by rw [if_neg c1, if_neg c2]⟩)
  have x0 : ∀ w : World, (Instr.index 22 (.agg #[.int .i64 b, .int .i64 low, .int .i64 mid, .int .i64 top]) (.int .i64 0)).run Try.prog w = .ok (.int .i64 b) w := fun _ => by kernel_rfl
  have x1 : ∀ w : World, (Instr.index 22 (.agg #[.int .i64 b, .int .i64 low, .int .i64 mid, .int .i64 top]) (.int .i64 1)).run Try.prog w = .ok (.int .i64 low) w := fun _ => by kernel_rfl
  have x2 : ∀ w : World, (Instr.index 22 (.agg #[.int .i64 b, .int .i64 low, .int .i64 mid, .int .i64 top]) (.int .i64 2)).run Try.prog w = .ok (.int .i64 mid) w := fun _ => by kernel_rfl
  have x3 : ∀ w : World, (Instr.index 22 (.agg #[.int .i64 b, .int .i64 low, .int .i64 mid, .int .i64 top]) (.int .i64 3)).run Try.prog w = .ok (.int .i64 top) w := fun _ => by kernel_rfl
  clear h0 h1 h2 h3
  rcases hcase with ⟨c1, c2, hv⟩ | ⟨c0, c1, c2, hv⟩ | ⟨c0, c1, hv⟩
  · have HV := Aside0.mk hv
    have p1 : decide (low ≤ b) = true := decide_eq_true c1
    have p2 : decide (b < mid) = true := decide_eq_true c2
    have p3 : (mid - low == 0) = false := by simp; omega
    clear hv
    go_enter Try.func14, Try.ntmps14
    go_wp2
    go_loop [16] (fun v => ∃ n : Int, (n = 0 ∨ n = 1 ∨ n = 2 ∨ n = 3 ∨ n = 4) ∧ v = .int .i64 n) (fun v => 4 - (intOf v).toNat)
    case atStart => exact ⟨0, .inl rfl, rfl⟩
    case round =>
      obtain ⟨n, hn, rfl⟩ := hrel
      rcases hn with rfl | rfl | rfl | rfl | rfl
      · go_wp2
        go_round
        case rel => exact ⟨1, .inr (.inl rfl), rfl⟩
        case measure => simp [intOf]
      · go_wp2
        go_round
        case rel => exact ⟨2, .inr (.inr (.inl rfl)), rfl⟩
        case measure => simp [intOf]
      · go_wp2
        go_round
        case rel => exact ⟨3, .inr (.inr (.inr (.inl rfl))), rfl⟩
        case measure => simp [intOf]
      · go_wp2
        go_round
        case rel => exact ⟨4, .inr (.inr (.inr (.inr rfl))), rfl⟩
        case measure => simp [intOf]
      · go_wp2
        go_ret
        exact ⟨by rw [HV.out]; rfl, rfl⟩
  · have HV := Aside0.mk hv
    have p0 : decide (low ≤ b) = true ∧ decide (b < mid) = false ∨ decide (low ≤ b) = false := by
      simp only [decide_eq_true_eq, decide_eq_false_iff_not]; omega
    have p1 : decide (mid ≤ b) = true := decide_eq_true c1
    have p2 : decide (b < top) = true := decide_eq_true c2
    have p3 : (top - mid == 0) = false := by simp; omega
    clear hv c0
    rcases p0 with ⟨p5, p6⟩ | p5
    · go_enter Try.func14, Try.ntmps14
      go_wp2
      go_loop [16] (fun v => ∃ n : Int, (n = 0 ∨ n = 1 ∨ n = 2 ∨ n = 3 ∨ n = 4) ∧ v = .int .i64 n) (fun v => 4 - (intOf v).toNat)
      case atStart => exact ⟨0, .inl rfl, rfl⟩
      case round =>
        obtain ⟨n, hn, rfl⟩ := hrel
        rcases hn with rfl | rfl | rfl | rfl | rfl
        · go_wp2
          go_round
          case rel => exact ⟨1, .inr (.inl rfl), rfl⟩
          case measure => simp [intOf]
        · go_wp2
          go_round
          case rel => exact ⟨2, .inr (.inr (.inl rfl)), rfl⟩
          case measure => simp [intOf]
        · go_wp2
          go_round
          case rel => exact ⟨3, .inr (.inr (.inr (.inl rfl))), rfl⟩
          case measure => simp [intOf]
        · go_wp2
          go_round
          case rel => exact ⟨4, .inr (.inr (.inr (.inr rfl))), rfl⟩
          case measure => simp [intOf]
        · go_wp2
          go_ret
          exact ⟨by rw [HV.out]; rfl, rfl⟩
    · go_enter Try.func14, Try.ntmps14
      go_wp2
      go_loop [16] (fun v => ∃ n : Int, (n = 0 ∨ n = 1 ∨ n = 2 ∨ n = 3 ∨ n = 4) ∧ v = .int .i64 n) (fun v => 4 - (intOf v).toNat)
      case atStart => exact ⟨0, .inl rfl, rfl⟩
      case round =>
        obtain ⟨n, hn, rfl⟩ := hrel
        rcases hn with rfl | rfl | rfl | rfl | rfl
        · go_wp2
          go_round
          case rel => exact ⟨1, .inr (.inl rfl), rfl⟩
          case measure => simp [intOf]
        · go_wp2
          go_round
          case rel => exact ⟨2, .inr (.inr (.inl rfl)), rfl⟩
          case measure => simp [intOf]
        · go_wp2
          go_round
          case rel => exact ⟨3, .inr (.inr (.inr (.inl rfl))), rfl⟩
          case measure => simp [intOf]
        · go_wp2
          go_round
          case rel => exact ⟨4, .inr (.inr (.inr (.inr rfl))), rfl⟩
          case measure => simp [intOf]
        · go_wp2
          go_ret
          exact ⟨by rw [HV.out]; rfl, rfl⟩
  · have HV := Aside0.mk hv
    have p0 : decide (low ≤ b) = true ∧ decide (b < mid) = false ∨ decide (low ≤ b) = false := by
      simp only [decide_eq_true_eq, decide_eq_false_iff_not]; omega
    have p1 : decide (mid ≤ b) = true ∧ decide (b < top) = false ∨ decide (mid ≤ b) = false := by
      simp only [decide_eq_true_eq, decide_eq_false_iff_not]; omega
    clear hv c0 c1
    rcases p0 with ⟨p5, p6⟩ | p5 <;> rcases p1 with ⟨p7, p8⟩ | p7
    · go_enter Try.func14, Try.ntmps14
      go_wp2
      go_loop [16] (fun v => ∃ n : Int, (n = 0 ∨ n = 1 ∨ n = 2 ∨ n = 3 ∨ n = 4) ∧ v = .int .i64 n) (fun v => 4 - (intOf v).toNat)
      case atStart => exact ⟨0, .inl rfl, rfl⟩
      case round =>
        obtain ⟨n, hn, rfl⟩ := hrel
        rcases hn with rfl | rfl | rfl | rfl | rfl
        · go_wp2
          go_round
          case rel => exact ⟨1, .inr (.inl rfl), rfl⟩
          case measure => simp [intOf]
        · go_wp2
          go_round
          case rel => exact ⟨2, .inr (.inr (.inl rfl)), rfl⟩
          case measure => simp [intOf]
        · go_wp2
          go_round
          case rel => exact ⟨3, .inr (.inr (.inr (.inl rfl))), rfl⟩
          case measure => simp [intOf]
        · go_wp2
          go_round
          case rel => exact ⟨4, .inr (.inr (.inr (.inr rfl))), rfl⟩
          case measure => simp [intOf]
        · go_wp2
          go_ret
          exact ⟨by rw [HV.out]; rfl, rfl⟩
    · go_enter Try.func14, Try.ntmps14
      go_wp2
      go_loop [16] (fun v => ∃ n : Int, (n = 0 ∨ n = 1 ∨ n = 2 ∨ n = 3 ∨ n = 4) ∧ v = .int .i64 n) (fun v => 4 - (intOf v).toNat)
      case atStart => exact ⟨0, .inl rfl, rfl⟩
      case round =>
        obtain ⟨n, hn, rfl⟩ := hrel
        rcases hn with rfl | rfl | rfl | rfl | rfl
        · go_wp2
          go_round
          case rel => exact ⟨1, .inr (.inl rfl), rfl⟩
          case measure => simp [intOf]
        · go_wp2
          go_round
          case rel => exact ⟨2, .inr (.inr (.inl rfl)), rfl⟩
          case measure => simp [intOf]
        · go_wp2
          go_round
          case rel => exact ⟨3, .inr (.inr (.inr (.inl rfl))), rfl⟩
          case measure => simp [intOf]
        · go_wp2
          go_round
          case rel => exact ⟨4, .inr (.inr (.inr (.inr rfl))), rfl⟩
          case measure => simp [intOf]
        · go_wp2
          go_ret
          exact ⟨by rw [HV.out]; rfl, rfl⟩
    · go_enter Try.func14, Try.ntmps14
      go_wp2
      go_loop [16] (fun v => ∃ n : Int, (n = 0 ∨ n = 1 ∨ n = 2 ∨ n = 3 ∨ n = 4) ∧ v = .int .i64 n) (fun v => 4 - (intOf v).toNat)
      case atStart => exact ⟨0, .inl rfl, rfl⟩
      case round =>
        obtain ⟨n, hn, rfl⟩ := hrel
        rcases hn with rfl | rfl | rfl | rfl | rfl
        · go_wp2
          go_round
          case rel => exact ⟨1, .inr (.inl rfl), rfl⟩
          case measure => simp [intOf]
        · go_wp2
          go_round
          case rel => exact ⟨2, .inr (.inr (.inl rfl)), rfl⟩
          case measure => simp [intOf]
        · go_wp2
          go_round
          case rel => exact ⟨3, .inr (.inr (.inr (.inl rfl))), rfl⟩
          case measure => simp [intOf]
        · go_wp2
          go_round
          case rel => exact ⟨4, .inr (.inr (.inr (.inr rfl))), rfl⟩
          case measure => simp [intOf]
        · go_wp2
          go_ret
          exact ⟨by rw [HV.out]; rfl, rfl⟩
    · go_enter Try.func14, Try.ntmps14
      go_wp2
      go_loop [16] (fun v => ∃ n : Int, (n = 0 ∨ n = 1 ∨ n = 2 ∨ n = 3 ∨ n = 4) ∧ v = .int .i64 n) (fun v => 4 - (intOf v).toNat)
      case atStart => exact ⟨0, .inl rfl, rfl⟩
      case round =>
        obtain ⟨n, hn, rfl⟩ := hrel
        rcases hn with rfl | rfl | rfl | rfl | rfl
        · go_wp2
          go_round
          case rel => exact ⟨1, .inr (.inl rfl), rfl⟩
          case measure => simp [intOf]
        · go_wp2
          go_round
          case rel => exact ⟨2, .inr (.inr (.inl rfl)), rfl⟩
          case measure => simp [intOf]
        · go_wp2
          go_round
          case rel => exact ⟨3, .inr (.inr (.inr (.inl rfl))), rfl⟩
          case measure => simp [intOf]
        · go_wp2
          go_round
          case rel => exact ⟨4, .inr (.inr (.inr (.inr rfl))), rfl⟩
          case measure => simp [intOf]
        · go_wp2
          go_ret
          exact ⟨by rw [HV.out]; rfl, rfl⟩
set_option maxHeartbeats 16000000 in
theorem weight_far (b low mid top : Int) (w : World) (K : Nat) (x : Int) (hK : K < 4) (hx : x = [b, low, mid, top].getD K 0) (hfar : ¬ nearB x = true) (hnear : ∀ j, j < K → nearB ([b, low, mid, top].getD j 0) = true) :
    Calls Try.prog 14 #[.int .i64 b, .int .i64 low, .int .i64 mid, .int .i64 top] w fun e w' => e = .returned (.int .i64 0) ∧ w = w' := by
  have x0 : ∀ w : World, (Instr.index 22 (.agg #[.int .i64 b, .int .i64 low, .int .i64 mid, .int .i64 top]) (.int .i64 0)).run Try.prog w = .ok (.int .i64 b) w := fun _ => by kernel_rfl
  have x1 : ∀ w : World, (Instr.index 22 (.agg #[.int .i64 b, .int .i64 low, .int .i64 mid, .int .i64 top]) (.int .i64 1)).run Try.prog w = .ok (.int .i64 low) w := fun _ => by kernel_rfl
  have x2 : ∀ w : World, (Instr.index 22 (.agg #[.int .i64 b, .int .i64 low, .int .i64 mid, .int .i64 top]) (.int .i64 2)).run Try.prog w = .ok (.int .i64 mid) w := fun _ => by kernel_rfl
  have x3 : ∀ w : World, (Instr.index 22 (.agg #[.int .i64 b, .int .i64 low, .int .i64 mid, .int .i64 top]) (.int .i64 3)).run Try.prog w = .ok (.int .i64 top) w := fun _ => by kernel_rfl
  have hf := near_no hfar
  have hK4 : K = 0 ∨ K = 1 ∨ K = 2 ∨ K = 3 := by omega
  rcases hK4 with rfl | rfl | rfl | rfl
  · have hx' : x = b := hx
    subst hx'
    clear hx hfar hnear hK
    rcases hf with f1 | ⟨f1, f2⟩
    all_goals
      go_enter Try.func14, Try.ntmps14
      go_wp2
      go_loop [16] (fun v => ∃ n : Int, (n = 0) ∧ v = .int .i64 n) (fun v => 4 - (intOf v).toNat)
      case atStart => exact ⟨0, rfl, rfl⟩
      case round =>
        obtain ⟨n, hn, rfl⟩ := hrel
        rcases hn with rfl
        · go_wp2
          go_ret
          exact ⟨rfl, rfl⟩
  · have hx' : x = low := hx
    subst hx'
    obtain ⟨d0, e0⟩ := near_dec (hnear 0 (by decide))
    have d0' : decide (b < -1073741824) = false := d0
    have e0' : decide (1073741824 < b) = false := e0
    clear hx hfar hnear hK d0 e0
    rcases hf with f1 | ⟨f1, f2⟩
    all_goals
      go_enter Try.func14, Try.ntmps14
      go_wp2
      go_loop [16] (fun v => ∃ n : Int, (n = 0 ∨ n = 1) ∧ v = .int .i64 n) (fun v => 4 - (intOf v).toNat)
      case atStart => exact ⟨0, .inl rfl, rfl⟩
      case round =>
        obtain ⟨n, hn, rfl⟩ := hrel
        rcases hn with rfl | rfl
        · go_wp2
          go_round
          case rel => exact ⟨1, .inr (rfl), rfl⟩
          case measure => simp [intOf]
        · go_wp2
          go_ret
          exact ⟨rfl, rfl⟩
  · have hx' : x = mid := hx
    subst hx'
    obtain ⟨d0, e0⟩ := near_dec (hnear 0 (by decide))
    have d0' : decide (b < -1073741824) = false := d0
    have e0' : decide (1073741824 < b) = false := e0
    obtain ⟨d1, e1⟩ := near_dec (hnear 1 (by decide))
    have d1' : decide (low < -1073741824) = false := d1
    have e1' : decide (1073741824 < low) = false := e1
    clear hx hfar hnear hK d0 e0 d1 e1
    rcases hf with f1 | ⟨f1, f2⟩
    all_goals
      go_enter Try.func14, Try.ntmps14
      go_wp2
      go_loop [16] (fun v => ∃ n : Int, (n = 0 ∨ n = 1 ∨ n = 2) ∧ v = .int .i64 n) (fun v => 4 - (intOf v).toNat)
      case atStart => exact ⟨0, .inl rfl, rfl⟩
      case round =>
        obtain ⟨n, hn, rfl⟩ := hrel
        rcases hn with rfl | rfl | rfl
        · go_wp2
          go_round
          case rel => exact ⟨1, .inr (.inl rfl), rfl⟩
          case measure => simp [intOf]
        · go_wp2
          go_round
          case rel => exact ⟨2, .inr (.inr (rfl)), rfl⟩
          case measure => simp [intOf]
        · go_wp2
          go_ret
          exact ⟨rfl, rfl⟩
  · have hx' : x = top := hx
    subst hx'
    obtain ⟨d0, e0⟩ := near_dec (hnear 0 (by decide))
    have d0' : decide (b < -1073741824) = false := d0
    have e0' : decide (1073741824 < b) = false := e0
    obtain ⟨d1, e1⟩ := near_dec (hnear 1 (by decide))
    have d1' : decide (low < -1073741824) = false := d1
    have e1' : decide (1073741824 < low) = false := e1
    obtain ⟨d2, e2⟩ := near_dec (hnear 2 (by decide))
    have d2' : decide (mid < -1073741824) = false := d2
    have e2' : decide (1073741824 < mid) = false := e2
    clear hx hfar hnear hK d0 e0 d1 e1 d2 e2
    rcases hf with f1 | ⟨f1, f2⟩
    all_goals
      go_enter Try.func14, Try.ntmps14
      go_wp2
      go_loop [16] (fun v => ∃ n : Int, (n = 0 ∨ n = 1 ∨ n = 2 ∨ n = 3) ∧ v = .int .i64 n) (fun v => 4 - (intOf v).toNat)
      case atStart => exact ⟨0, .inl rfl, rfl⟩
      case round =>
        obtain ⟨n, hn, rfl⟩ := hrel
        rcases hn with rfl | rfl | rfl | rfl
        · go_wp2
          go_round
          case rel => exact ⟨1, .inr (.inl rfl), rfl⟩
          case measure => simp [intOf]
        · go_wp2
          go_round
          case rel => exact ⟨2, .inr (.inr (.inl rfl)), rfl⟩
          case measure => simp [intOf]
        · go_wp2
          go_round
          case rel => exact ⟨3, .inr (.inr (.inr (rfl))), rfl⟩
          case measure => simp [intOf]
        · go_wp2
          go_ret
          exact ⟨rfl, rfl⟩
theorem mel_Weight.calls (a0 a1 a2 a3 : Int) (r : Int) (w : World) (h : mel_Weight.f a0 a1 a2 a3 = some r) :
    Calls Try.prog 14 #[.int .i64 a0, .int .i64 a1, .int .i64 a2, .int .i64 a3] w fun e w' => e = .returned (.int .i64 r) ∧ Drawn0 w w' := by
  obtain rfl := Option.some.inj h
  have key : Calls Try.prog 14 #[.int .i64 a0, .int .i64 a1, .int .i64 a2, .int .i64 a3] w fun e w' => e = .returned (.int .i64 (weightF a0 a1 a2 a3)) ∧ w = w' := by
    unfold weightF
    by_cases h0 : nearB a0 = true
    · by_cases h1 : nearB a1 = true
      · by_cases h2 : nearB a2 = true
        · by_cases h3 : nearB a3 = true
          · rw [if_pos ⟨h0, h1, h2, h3⟩]; exact weight_near a0 a1 a2 a3 w h0 h1 h2 h3
          · rw [if_neg (fun h => h3 h.2.2.2)]; exact weight_far a0 a1 a2 a3 w 3 a3 (by decide) rfl h3 (fun j hj => by match j, hj with | 0, _ => exact h0 | 1, _ => exact h1 | 2, _ => exact h2)
        · rw [if_neg (fun h => h2 h.2.2.1)]; exact weight_far a0 a1 a2 a3 w 2 a2 (by decide) rfl h2 (fun j hj => by match j, hj with | 0, _ => exact h0 | 1, _ => exact h1)
      · rw [if_neg (fun h => h1 h.2.1)]; exact weight_far a0 a1 a2 a3 w 1 a1 (by decide) rfl h1 (fun j hj => by match j, hj with | 0, _ => exact h0)
    · rw [if_neg (fun h => h0 h.1)]; exact weight_far a0 a1 a2 a3 w 0 a0 (by decide) rfl h0 (fun j hj => by omega)
  exact key.mono fun e w' ⟨a, b⟩ => by
    subst b
    exact ⟨a, ⟨0, rfl⟩⟩

/-! ### earshotlaw11_awake: function 8 -/
def earshotlaw11_awake.f (k : Nat)  : Option (Bool) := (mel_Edges.f 9 1).bind fun t106 => ((earshotref04_Same.f k t106 (([0, 4, 8] : List Int))).bind fun t112 => ((mel_Weight.f 3 2 4 8).bind fun t113 => (if t113 = 128 then ((mel_Weight.f 5 2 4 8).bind fun t114 => (if t114 = 192 then (some t112) else (some false))) else (some false))))
theorem earshotlaw11_awake.mono : ∀ k, LeO (earshotlaw11_awake.f k ) (earshotlaw11_awake.f (k + 1) ) := by
  intro  k
  unfold earshotlaw11_awake.f
  repeat' first
      | (with_reducible exact earshotref04_Same.mono _ _ _)
      | (with_reducible exact LeO.refl _)
      | (with_reducible exact LeO.none _)
      | (with_reducible refine LeO.ite ?_ ?_)
      | (with_reducible refine LeO.bind ?_ (fun _ => ?_))
      | exact earshotref04_Same.mono _ _ _
      | exact LeO.none _
      | refine LeO.ite ?_ ?_
      | refine LeO.bind ?_ (fun _ => ?_)
set_option maxHeartbeats 8000000 in
set_option maxRecDepth 100000 in
theorem earshotlaw11_awake.calls (k : Nat)  (r : Bool) (w : World) (h : earshotlaw11_awake.f k  = some r) :
    Calls Try.prog 8 #[] w fun e w' => e = .returned (.bool r) ∧ Below w.heap.size w w' := by
  have HB := Aside0.mk (Below.refl w.heap.size w)
  have H : ((mel_Edges.f 9 1).bind fun t106 => ((earshotref04_Same.f k t106 (([0, 4, 8] : List Int))).bind fun t112 => ((mel_Weight.f 3 2 4 8).bind fun t113 => (if t113 = 128 then ((mel_Weight.f 5 2 4 8).bind fun t114 => (if t114 = 192 then (some t112) else (some false))) else (some false))))) = some r := h
  clear h
  replace H := Option.bind_eq_some_iff.mp H
  obtain ⟨t106, A10, H⟩ := H
  replace H : ((earshotref04_Same.f k t106 (([0, 4, 8] : List Int))).bind fun t112 => ((mel_Weight.f 3 2 4 8).bind fun t113 => (if t113 = 128 then ((mel_Weight.f 5 2 4 8).bind fun t114 => (if t114 = 192 then (some t112) else (some false))) else (some false)))) = some r := H
  have A1 := Aside0.mk A10
  clear A10
  obtain ⟨y109, hy109⟩ : ∃ y_ : List Int, y_ = (([0, 4, 8] : List Int)) := ⟨_, rfl⟩
  replace H : ((earshotref04_Same.f k t106 y109).bind fun t112 => ((mel_Weight.f 3 2 4 8).bind fun t113 => (if t113 = 128 then ((mel_Weight.f 5 2 4 8).bind fun t114 => (if t114 = 192 then (some t112) else (some false))) else (some false)))) = some r := by first | (rw [hy109]; with_reducible exact H) | (have H2_ := (Option.bind_some _ _).symm.trans H; rw [hy109]; with_reducible exact H2_) | (have H2_ := (Option.bind_some _ _).symm.trans H; with_reducible exact H2_) | with_reducible exact H | (rw [hy109]; exact H) | exact H
  have Ny109 := Aside0.mk hy109
  clear hy109
  replace H := Option.bind_eq_some_iff.mp H
  obtain ⟨t112, A20, H⟩ := H
  replace H : ((mel_Weight.f 3 2 4 8).bind fun t113 => (if t113 = 128 then ((mel_Weight.f 5 2 4 8).bind fun t114 => (if t114 = 192 then (some t112) else (some false))) else (some false))) = some r := H
  have A2 := Aside0.mk A20
  clear A20
  replace H := Option.bind_eq_some_iff.mp H
  obtain ⟨t113, A30, H⟩ := H
  replace H : (if t113 = 128 then ((mel_Weight.f 5 2 4 8).bind fun t114 => (if t114 = 192 then (some t112) else (some false))) else (some false)) = some r := H
  have A3 := Aside0.mk A30
  clear A30
  by_cases c4 : t113 = 128
  · rw [if_pos c4] at H
    have c4b0 : (t113 == 128) = true := beq_iff_eq.mpr c4
    have c4b1 : (t113 != 128) = false := bne_eq_false_iff_eq.mpr c4
    clear c4
    replace H := Option.bind_eq_some_iff.mp H
    obtain ⟨t114, A50, H⟩ := H
    replace H : (if t114 = 192 then (some t112) else (some false)) = some r := H
    have A5 := Aside0.mk A50
    clear A50
    by_cases c6 : t114 = 192
    · rw [if_pos c6] at H
      have c6b0 : (t114 == 192) = true := beq_iff_eq.mpr c6
      have c6b1 : (t114 != 192) = false := bne_eq_false_iff_eq.mpr c6
      clear c6
      obtain rfl := Option.some.inj H
      go_enter Try.func8, Try.ntmps8
      go_wp2_with (first | ((with_reducible refine gate_callee (f := 10) rfl ?_); refine goesL_ (some 2) rfl rfl Try.func10 (by kernel_rfl) rfl #[.int .i64 9, .int .i64 1] rfl (by (try simp only [List.map_toArray, List.map_cons, List.map_nil]); first | done | rfl | (simp only [List.length_drop, List.length_take]; rfl)) ?_; (with_reducible refine (mel_Edges.calls 9 1 t106 _ A1.out).mono ?_); rintro e w7 ⟨v107, rfl, ho0, hb⟩; refine ⟨_, rfl, ?_⟩; have n0_ := Aside0.mk (Kd.R_lower ho0 (below_size (by repeat (first | (with_reducible first | exact HB.out | apply below_alloc | apply pw_below_drewN | apply below_drew1) | exact HB.out)))); have n1_ := Aside0.mk (below_step (by repeat (first | (with_reducible first | exact HB.out | apply below_alloc | apply pw_below_drewN | apply below_drew1) | exact HB.out)) hb); clear HB; have HO108 := n0_; have HB := n1_; clear n0_ n1_; (try clear hb); (try clear hb2); (try clear hk); (try clear hi); (try clear ho0)) | ((with_reducible refine gate_dst (N := 3) rfl ?_); refine Kd.R_lit (Kd.int .i64) _ 3 ?hg (N := 3) ?hd (xs := ([0, 4, 8] : List Int)) (inner := [.int .i64 0, .int .i64 4, .int .i64 8]) (ok := fun _ => True) (okp := fun _ => True) ?hr ?hp (fun _ hk => hk) trivial (Below.refl _ _) (Nat.le_refl _) (by simp) ?_; (case hd => rfl); (case hg => first | rfl | exact wanted_on rfl rfl rfl (by first | assumption | rfl | (simp [*]; done))); (case hr => first | (go_simp; done) | (go_simp; rfl)); (case hp => exact (Reps.one (show Kd.M (Kd.int .i64) _ _ _ 0 [.int .i64 0] from rfl) (Reps.one (show Kd.M (Kd.int .i64) _ _ _ 4 [.int .i64 4] from rfl) (Reps.one (show Kd.M (Kd.int .i64) _ _ _ 8 [.int .i64 8] from rfl) (Reps.none _ _))))); intro v110 w8 ho9 hb hg_ hnew_; clear hg_ hnew_; (first | rw [← Ny109.out] at ho9 | (simp only [Int.reduceToNat] at ho9; rw [← Ny109.out] at ho9)); have n0_ := Aside0.mk (Kd.R_elder' (by (with_reducible repeat (first | apply Kd.R_alloc | apply Kd.R_drewN | apply Kd.R_drew)); (first | exact HO108.out | exact Kd.R_mono HO108.out (fun _ _ => trivial) | exact Kd.R_mono HO108.out (fun _ hk => hk.1))) (Kd.R_base ho9) hb); have n1_ := Aside0.mk (Kd.R_lower (Kd.R_new' ho9 (Kd.R_lt (by (with_reducible repeat (first | apply Kd.R_alloc | apply Kd.R_drewN | apply Kd.R_drew)); (first | exact HO108.out | exact Kd.R_mono HO108.out (fun _ _ => trivial) | exact Kd.R_mono HO108.out (fun _ hk => hk.1))))) (below_size (by repeat (first | (with_reducible first | exact HB.out | apply below_alloc | apply pw_below_drewN | apply below_drew1) | exact HB.out)))); have n2_ := Aside0.mk (below_step (by repeat (first | (with_reducible first | exact HB.out | apply below_alloc | apply pw_below_drewN | apply below_drew1) | exact HB.out)) hb); clear HO108; clear HB; have HO108 := n0_; have HO111 := n1_; have HB := n2_; clear n0_ n1_ n2_; clear hb ho9; obtain ⟨Ao10, co10, eo10⟩ := Kd.R_slice HO108.out; subst eo10; obtain ⟨Ao11, co11, eo11⟩ := Kd.R_slice HO111.out; subst eo11) | ((with_reducible refine gate_callee (f := 9) rfl ?_); refine goesL_ (some 4) rfl rfl Try.func9 (by kernel_rfl) rfl #[.slice Ao10 t106.length co10, .slice Ao11 y109.length co11] rfl (by (try simp only [List.map_toArray, List.map_cons, List.map_nil]); first | done | rfl | (simp only [List.length_drop, List.length_take]; rfl)) ?_; (with_reducible refine (earshotref04_Same.calls k _ _ t106 _ _ y109 t112 _ ?side1 ?side2 ?side3 ?side4 A2.out).mono ?_); (case side1 => repeat (first | exact (Kd.R_reads' HO108.out).2.2 | (with_reducible refine Kd.C_alloc ?_ _) | (with_reducible refine Kd.C_drewN ?_ _) | (with_reducible refine Kd.C_drew ?_))); (case side2 => exact (Kd.R_reads' HO108.out).2.1); (case side3 => repeat (first | exact (Kd.R_reads' HO111.out).2.2 | (with_reducible refine Kd.C_alloc ?_ _) | (with_reducible refine Kd.C_drewN ?_ _) | (with_reducible refine Kd.C_drew ?_))); (case side4 => exact (Kd.R_reads' HO111.out).2.1); rintro e w' ⟨rfl, ⟨nd, rfl⟩⟩; refine ⟨_, rfl, ?_⟩) | ((with_reducible refine gate_callee (f := 14) rfl ?_); refine goesL_ (some 5) rfl rfl Try.func14 (by kernel_rfl) rfl #[.int .i64 3, .int .i64 2, .int .i64 4, .int .i64 8] rfl (by (try simp only [List.map_toArray, List.map_cons, List.map_nil]); first | done | rfl | (simp only [List.length_drop, List.length_take]; rfl)) ?_; (with_reducible refine (mel_Weight.calls 3 2 4 8 t113 _ A3.out).mono ?_); rintro e w' ⟨rfl, ⟨nd, rfl⟩⟩; refine ⟨_, rfl, ?_⟩) | (go_at_call 14; (with_reducible refine (mel_Weight.calls 5 2 4 8 t114 _ A5.out).mono ?_); rintro e w' ⟨rfl, ⟨nd, rfl⟩⟩))
      go_ret
      exact ⟨by first | rfl | (simp [errW_none, errW_some] <;> rfl) | (simp [*, errW_none, errW_some] <;> rfl), by repeat (first | (with_reducible first | exact HB.out | apply below_alloc | apply pw_below_drewN | apply below_drew1) | exact HB.out)⟩
    · rw [if_neg c6] at H
      have c6b0 : (t114 == 192) = false := beq_eq_false_iff_ne.mpr c6
      have c6b1 : (t114 != 192) = true := bne_iff_ne.mpr c6
      obtain rfl := Option.some.inj H
      go_enter Try.func8, Try.ntmps8
      go_wp2_with (first | ((with_reducible refine gate_callee (f := 10) rfl ?_); refine goesL_ (some 2) rfl rfl Try.func10 (by kernel_rfl) rfl #[.int .i64 9, .int .i64 1] rfl (by (try simp only [List.map_toArray, List.map_cons, List.map_nil]); first | done | rfl | (simp only [List.length_drop, List.length_take]; rfl)) ?_; (with_reducible refine (mel_Edges.calls 9 1 t106 _ A1.out).mono ?_); rintro e w12 ⟨v107, rfl, ho0, hb⟩; refine ⟨_, rfl, ?_⟩; have n0_ := Aside0.mk (Kd.R_lower ho0 (below_size (by repeat (first | (with_reducible first | exact HB.out | apply below_alloc | apply pw_below_drewN | apply below_drew1) | exact HB.out)))); have n1_ := Aside0.mk (below_step (by repeat (first | (with_reducible first | exact HB.out | apply below_alloc | apply pw_below_drewN | apply below_drew1) | exact HB.out)) hb); clear HB; have HO108 := n0_; have HB := n1_; clear n0_ n1_; (try clear hb); (try clear hb2); (try clear hk); (try clear hi); (try clear ho0)) | ((with_reducible refine gate_dst (N := 3) rfl ?_); refine Kd.R_lit (Kd.int .i64) _ 3 ?hg (N := 3) ?hd (xs := ([0, 4, 8] : List Int)) (inner := [.int .i64 0, .int .i64 4, .int .i64 8]) (ok := fun _ => True) (okp := fun _ => True) ?hr ?hp (fun _ hk => hk) trivial (Below.refl _ _) (Nat.le_refl _) (by simp) ?_; (case hd => rfl); (case hg => first | rfl | exact wanted_on rfl rfl rfl (by first | assumption | rfl | (simp [*]; done))); (case hr => first | (go_simp; done) | (go_simp; rfl)); (case hp => exact (Reps.one (show Kd.M (Kd.int .i64) _ _ _ 0 [.int .i64 0] from rfl) (Reps.one (show Kd.M (Kd.int .i64) _ _ _ 4 [.int .i64 4] from rfl) (Reps.one (show Kd.M (Kd.int .i64) _ _ _ 8 [.int .i64 8] from rfl) (Reps.none _ _))))); intro v110 w13 ho14 hb hg_ hnew_; clear hg_ hnew_; (first | rw [← Ny109.out] at ho14 | (simp only [Int.reduceToNat] at ho14; rw [← Ny109.out] at ho14)); have n0_ := Aside0.mk (Kd.R_elder' (by (with_reducible repeat (first | apply Kd.R_alloc | apply Kd.R_drewN | apply Kd.R_drew)); (first | exact HO108.out | exact Kd.R_mono HO108.out (fun _ _ => trivial) | exact Kd.R_mono HO108.out (fun _ hk => hk.1))) (Kd.R_base ho14) hb); have n1_ := Aside0.mk (Kd.R_lower (Kd.R_new' ho14 (Kd.R_lt (by (with_reducible repeat (first | apply Kd.R_alloc | apply Kd.R_drewN | apply Kd.R_drew)); (first | exact HO108.out | exact Kd.R_mono HO108.out (fun _ _ => trivial) | exact Kd.R_mono HO108.out (fun _ hk => hk.1))))) (below_size (by repeat (first | (with_reducible first | exact HB.out | apply below_alloc | apply pw_below_drewN | apply below_drew1) | exact HB.out)))); have n2_ := Aside0.mk (below_step (by repeat (first | (with_reducible first | exact HB.out | apply below_alloc | apply pw_below_drewN | apply below_drew1) | exact HB.out)) hb); clear HO108; clear HB; have HO108 := n0_; have HO111 := n1_; have HB := n2_; clear n0_ n1_ n2_; clear hb ho14; obtain ⟨Ao15, co15, eo15⟩ := Kd.R_slice HO108.out; subst eo15; obtain ⟨Ao16, co16, eo16⟩ := Kd.R_slice HO111.out; subst eo16) | ((with_reducible refine gate_callee (f := 9) rfl ?_); refine goesL_ (some 4) rfl rfl Try.func9 (by kernel_rfl) rfl #[.slice Ao15 t106.length co15, .slice Ao16 y109.length co16] rfl (by (try simp only [List.map_toArray, List.map_cons, List.map_nil]); first | done | rfl | (simp only [List.length_drop, List.length_take]; rfl)) ?_; (with_reducible refine (earshotref04_Same.calls k _ _ t106 _ _ y109 t112 _ ?side1 ?side2 ?side3 ?side4 A2.out).mono ?_); (case side1 => repeat (first | exact (Kd.R_reads' HO108.out).2.2 | (with_reducible refine Kd.C_alloc ?_ _) | (with_reducible refine Kd.C_drewN ?_ _) | (with_reducible refine Kd.C_drew ?_))); (case side2 => exact (Kd.R_reads' HO108.out).2.1); (case side3 => repeat (first | exact (Kd.R_reads' HO111.out).2.2 | (with_reducible refine Kd.C_alloc ?_ _) | (with_reducible refine Kd.C_drewN ?_ _) | (with_reducible refine Kd.C_drew ?_))); (case side4 => exact (Kd.R_reads' HO111.out).2.1); rintro e w' ⟨rfl, ⟨nd, rfl⟩⟩; refine ⟨_, rfl, ?_⟩) | ((with_reducible refine gate_callee (f := 14) rfl ?_); refine goesL_ (some 5) rfl rfl Try.func14 (by kernel_rfl) rfl #[.int .i64 3, .int .i64 2, .int .i64 4, .int .i64 8] rfl (by (try simp only [List.map_toArray, List.map_cons, List.map_nil]); first | done | rfl | (simp only [List.length_drop, List.length_take]; rfl)) ?_; (with_reducible refine (mel_Weight.calls 3 2 4 8 t113 _ A3.out).mono ?_); rintro e w' ⟨rfl, ⟨nd, rfl⟩⟩; refine ⟨_, rfl, ?_⟩) | (go_at_call 14; (with_reducible refine (mel_Weight.calls 5 2 4 8 t114 _ A5.out).mono ?_); rintro e w' ⟨rfl, ⟨nd, rfl⟩⟩))
      go_ret
      exact ⟨by first | rfl | (simp [errW_none, errW_some] <;> rfl) | (simp [*, errW_none, errW_some] <;> rfl), by repeat (first | (with_reducible first | exact HB.out | apply below_alloc | apply pw_below_drewN | apply below_drew1) | exact HB.out)⟩
  · rw [if_neg c4] at H
    have c4b0 : (t113 == 128) = false := beq_eq_false_iff_ne.mpr c4
    have c4b1 : (t113 != 128) = true := bne_iff_ne.mpr c4
    obtain rfl := Option.some.inj H
    go_enter Try.func8, Try.ntmps8
    go_wp2_with (first | ((with_reducible refine gate_callee (f := 10) rfl ?_); refine goesL_ (some 2) rfl rfl Try.func10 (by kernel_rfl) rfl #[.int .i64 9, .int .i64 1] rfl (by (try simp only [List.map_toArray, List.map_cons, List.map_nil]); first | done | rfl | (simp only [List.length_drop, List.length_take]; rfl)) ?_; (with_reducible refine (mel_Edges.calls 9 1 t106 _ A1.out).mono ?_); rintro e w17 ⟨v107, rfl, ho0, hb⟩; refine ⟨_, rfl, ?_⟩; have n0_ := Aside0.mk (Kd.R_lower ho0 (below_size (by repeat (first | (with_reducible first | exact HB.out | apply below_alloc | apply pw_below_drewN | apply below_drew1) | exact HB.out)))); have n1_ := Aside0.mk (below_step (by repeat (first | (with_reducible first | exact HB.out | apply below_alloc | apply pw_below_drewN | apply below_drew1) | exact HB.out)) hb); clear HB; have HO108 := n0_; have HB := n1_; clear n0_ n1_; (try clear hb); (try clear hb2); (try clear hk); (try clear hi); (try clear ho0)) | ((with_reducible refine gate_dst (N := 3) rfl ?_); refine Kd.R_lit (Kd.int .i64) _ 3 ?hg (N := 3) ?hd (xs := ([0, 4, 8] : List Int)) (inner := [.int .i64 0, .int .i64 4, .int .i64 8]) (ok := fun _ => True) (okp := fun _ => True) ?hr ?hp (fun _ hk => hk) trivial (Below.refl _ _) (Nat.le_refl _) (by simp) ?_; (case hd => rfl); (case hg => first | rfl | exact wanted_on rfl rfl rfl (by first | assumption | rfl | (simp [*]; done))); (case hr => first | (go_simp; done) | (go_simp; rfl)); (case hp => exact (Reps.one (show Kd.M (Kd.int .i64) _ _ _ 0 [.int .i64 0] from rfl) (Reps.one (show Kd.M (Kd.int .i64) _ _ _ 4 [.int .i64 4] from rfl) (Reps.one (show Kd.M (Kd.int .i64) _ _ _ 8 [.int .i64 8] from rfl) (Reps.none _ _))))); intro v110 w18 ho19 hb hg_ hnew_; clear hg_ hnew_; (first | rw [← Ny109.out] at ho19 | (simp only [Int.reduceToNat] at ho19; rw [← Ny109.out] at ho19)); have n0_ := Aside0.mk (Kd.R_elder' (by (with_reducible repeat (first | apply Kd.R_alloc | apply Kd.R_drewN | apply Kd.R_drew)); (first | exact HO108.out | exact Kd.R_mono HO108.out (fun _ _ => trivial) | exact Kd.R_mono HO108.out (fun _ hk => hk.1))) (Kd.R_base ho19) hb); have n1_ := Aside0.mk (Kd.R_lower (Kd.R_new' ho19 (Kd.R_lt (by (with_reducible repeat (first | apply Kd.R_alloc | apply Kd.R_drewN | apply Kd.R_drew)); (first | exact HO108.out | exact Kd.R_mono HO108.out (fun _ _ => trivial) | exact Kd.R_mono HO108.out (fun _ hk => hk.1))))) (below_size (by repeat (first | (with_reducible first | exact HB.out | apply below_alloc | apply pw_below_drewN | apply below_drew1) | exact HB.out)))); have n2_ := Aside0.mk (below_step (by repeat (first | (with_reducible first | exact HB.out | apply below_alloc | apply pw_below_drewN | apply below_drew1) | exact HB.out)) hb); clear HO108; clear HB; have HO108 := n0_; have HO111 := n1_; have HB := n2_; clear n0_ n1_ n2_; clear hb ho19; obtain ⟨Ao20, co20, eo20⟩ := Kd.R_slice HO108.out; subst eo20; obtain ⟨Ao21, co21, eo21⟩ := Kd.R_slice HO111.out; subst eo21) | ((with_reducible refine gate_callee (f := 9) rfl ?_); refine goesL_ (some 4) rfl rfl Try.func9 (by kernel_rfl) rfl #[.slice Ao20 t106.length co20, .slice Ao21 y109.length co21] rfl (by (try simp only [List.map_toArray, List.map_cons, List.map_nil]); first | done | rfl | (simp only [List.length_drop, List.length_take]; rfl)) ?_; (with_reducible refine (earshotref04_Same.calls k _ _ t106 _ _ y109 t112 _ ?side1 ?side2 ?side3 ?side4 A2.out).mono ?_); (case side1 => repeat (first | exact (Kd.R_reads' HO108.out).2.2 | (with_reducible refine Kd.C_alloc ?_ _) | (with_reducible refine Kd.C_drewN ?_ _) | (with_reducible refine Kd.C_drew ?_))); (case side2 => exact (Kd.R_reads' HO108.out).2.1); (case side3 => repeat (first | exact (Kd.R_reads' HO111.out).2.2 | (with_reducible refine Kd.C_alloc ?_ _) | (with_reducible refine Kd.C_drewN ?_ _) | (with_reducible refine Kd.C_drew ?_))); (case side4 => exact (Kd.R_reads' HO111.out).2.1); rintro e w' ⟨rfl, ⟨nd, rfl⟩⟩; refine ⟨_, rfl, ?_⟩) | ((with_reducible refine gate_callee (f := 14) rfl ?_); refine goesL_ (some 5) rfl rfl Try.func14 (by kernel_rfl) rfl #[.int .i64 3, .int .i64 2, .int .i64 4, .int .i64 8] rfl (by (try simp only [List.map_toArray, List.map_cons, List.map_nil]); first | done | rfl | (simp only [List.length_drop, List.length_take]; rfl)) ?_; (with_reducible refine (mel_Weight.calls 3 2 4 8 t113 _ A3.out).mono ?_); rintro e w' ⟨rfl, ⟨nd, rfl⟩⟩; refine ⟨_, rfl, ?_⟩))
    go_ret
    exact ⟨by first | rfl | (simp [errW_none, errW_some] <;> rfl) | (simp [*, errW_none, errW_some] <;> rfl), by repeat (first | (with_reducible first | exact HB.out | apply below_alloc | apply pw_below_drewN | apply below_drew1) | exact HB.out)⟩

/-! ### earshotlaw11_few: function 16 -/
def earshotlaw11_few.f (l0 : List Int) : Option (List Int) := some (l0.take 66)
theorem few_go (A0 : Option Addr) (n c0 : Nat) (w : World) (hn : n ≤ c0) : Calls Try.prog 16 #[.slice A0 n c0] w fun e w' => e = .returned (.slice A0 (min 66 n) c0) ∧ w = w' := by
  by_cases h : 66 < n
  · have hc : 66 ≤ c0 := by omega
    have e : min 66 n = 66 := by omega
    rw [e]
    clear e
    go_enter Try.func16, Try.ntmps16
    go_wp2
    go_ret
    exact ⟨rfl, rfl⟩
  · have e : min 66 n = n := by omega
    rw [e]
    have h' : n ≤ 66 := by omega
    clear e h
    go_enter Try.func16, Try.ntmps16
    go_wp2
    go_ret
    exact ⟨rfl, rfl⟩

/-! ### round_Parts: function 23 -/
def round_Parts.f (a0 : Int) (a1 : Int) : Option (Int × Int) := if a1 < 1 then (some (0, 0)) else (if a1 = 0 then (none) else (if (Int.tmod a0 a1) < 0 then (some (wrap64 ((wrap64 (Int.tdiv a0 a1)) - 1), wrap64 ((Int.tmod a0 a1) + a1))) else (some (wrap64 (Int.tdiv a0 a1), Int.tmod a0 a1))))
set_option maxHeartbeats 8000000 in
set_option maxRecDepth 100000 in
theorem round_Parts.calls (a0 : Int) (a1 : Int) (r1 : Int) (r2 : Int) (w : World) (h : round_Parts.f a0 a1 = some (r1, r2)) :
    Calls Try.prog 23 #[.int .i64 a0, .int .i64 a1] w fun e w' => e = .returned (.tuple #[.int .i64 r1, .int .i64 r2]) ∧ Drawn0 w w' := by
  have H : (if a1 < 1 then (some (0, 0)) else (if a1 = 0 then (none) else (if (Int.tmod a0 a1) < 0 then (some (wrap64 ((wrap64 (Int.tdiv a0 a1)) - 1), wrap64 ((Int.tmod a0 a1) + a1))) else (some (wrap64 (Int.tdiv a0 a1), Int.tmod a0 a1))))) = some (r1, r2) := h
  clear h
  by_cases c3 : a1 < 1
  · rw [if_pos c3] at H
    have c3b0 : decide (a1 < 1) = true := decide_eq_true c3
    clear c3
    simp only [Option.some.injEq, Prod.mk.injEq] at H
    obtain ⟨rfl, rfl⟩ := H
    go_enter Try.func23, Try.ntmps23
    go_wp2
    repeat (go_quiet (fail); try go_wp2)
    go_ret2
    exact ⟨by first | rfl | (simp; done) | (simp [*]; done), by repeat (first | exact Drawn0.refl _ | apply Drawn0.step)⟩
  · rw [if_neg c3] at H
    have c3b0 : decide (a1 < 1) = false := decide_eq_false c3
    clear c3
    by_cases c4 : a1 = 0
    · rw [if_pos c4] at H
      exact absurd H (by simp)
    · rw [if_neg c4] at H
      have c4b0 : (a1 == 0) = false := beq_eq_false_iff_ne.mpr c4
      have c4b1 : (a1 != 0) = true := bne_iff_ne.mpr c4
      by_cases c5 : (Int.tmod a0 a1) < 0
      · rw [if_pos c5] at H
        have c5b0 : decide ((Int.tmod a0 a1) < 0) = true := decide_eq_true c5
        clear c5
        simp only [Option.some.injEq, Prod.mk.injEq] at H
        obtain ⟨rfl, rfl⟩ := H
        go_enter Try.func23, Try.ntmps23
        go_wp2
        repeat (go_quiet (fail); try go_wp2)
        go_ret2
        exact ⟨by first | rfl | (simp; done) | (simp [*]; done), by repeat (first | exact Drawn0.refl _ | apply Drawn0.step)⟩
      · rw [if_neg c5] at H
        have c5b0 : decide ((Int.tmod a0 a1) < 0) = false := decide_eq_false c5
        clear c5
        simp only [Option.some.injEq, Prod.mk.injEq] at H
        obtain ⟨rfl, rfl⟩ := H
        go_enter Try.func23, Try.ntmps23
        go_wp2
        repeat (go_quiet (fail); try go_wp2)
        go_ret2
        exact ⟨by first | rfl | (simp; done) | (simp [*]; done), by repeat (first | exact Drawn0.refl _ | apply Drawn0.step)⟩

-- NOT PRINTED: function 22 (mel_Bands_1)

/-! ### mel_Bands: function 17 -/
theorem prt_low {x n : Int} (hn : 1 ≤ n) (hx : -9223372036854775808 ≤ x) : -9223372036854775808 ≤ x / n := by
  refine (Int.le_ediv_iff_mul_le (by omega)).2 ?_
  omega
theorem prt_high {x n : Int} (hn : 1 ≤ n) (hx : x ≤ 9223372036854775807) : x / n ≤ 9223372036854775807 := by
  refine Int.le_trans (Int.ediv_le_ediv (by omega) hx) ?_
  exact Int.ediv_le_self _ (by decide)
theorem prt_some {x n : Int} (hx : -9223372036854775808 ≤ x ∧ x ≤ 9223372036854775807) (hn : -9223372036854775808 ≤ n ∧ n ≤ 9223372036854775807) (h1 : 1 ≤ n) : round_Parts.f x n = some (x / n, x % n) := by
  have hl := prt_low h1 hx.1
  have hh := prt_high h1 hx.2
  have m0 := Int.emod_nonneg x (show n ≠ 0 by omega)
  have m1 := Int.emod_lt_of_pos x (show 0 < n by omega)
  have e1 := Int.tmod_eq_emod (a := x) (b := n)
  have e2 := Int.tdiv_eq_ediv (a := x) (b := n)
  have s1 : n.sign = 1 := Int.sign_eq_one_of_pos (by omega)
  have s2 : (n.natAbs : Int) = n := by omega
  rw [s1] at e2
  unfold round_Parts.f
  rw [if_neg (by omega), if_neg (by omega)]
  by_cases h : 0 ≤ x ∨ n ∣ x
  · rw [if_pos h] at e1 e2
    rw [if_neg (by omega), e1, e2, Int.natCast_zero]
    rw [show wrap64 (x / n + 0) = x / n by unfold wrap64; omega, Int.sub_zero]
  · rw [if_neg h] at e1 e2
    rw [s2] at e1
    have hx0 : x / n < 0 := by
      rcases Int.lt_or_le (x / n) 0 with h' | h'
      · exact h'
      · have := Int.mul_ediv_add_emod x n
        have := Int.mul_nonneg (show 0 ≤ n by omega) h'
        omega
    rw [if_pos (by omega), e1, e2]
    rw [show wrap64 (x / n + 1) = x / n + 1 by unfold wrap64; omega, show wrap64 (x / n + 1 - 1) = x / n by unfold wrap64; omega, show wrap64 (x % n - n + n) = x % n by unfold wrap64; omega]
theorem prt_none {x n : Int} (h1 : n < 1) : round_Parts.f x n = some (0, 0) := by
  unfold round_Parts.f
  rw [if_pos h1]

/-- What is in a band, number by number. -/
def bandS (p : List Int) (low mid top : Int) : Nat → Int
  | 0 => 0
  | n + 1 => wrap64 (bandS p low mid top n + wrap64 (p.getD n 0 * weightF (n : Int) low mid top))
def bandV (p : List Int) (low mid top : Int) : Int := bandS p low mid top p.length / 256
def bandsL (p e : List Int) : List Int := (List.range (e.length - 2)).map fun m => bandV p (e.getD m 0) (e.getD (m + 1) 0) (e.getD (m + 2) 0)
theorem bandS_in (p : List Int) (low mid top : Int) (n : Nat) : -9223372036854775808 ≤ bandS p low mid top n ∧ bandS p low mid top n ≤ 9223372036854775807 := by
  cases n with
  | zero => exact ⟨show (-9223372036854775808 : Int) ≤ 0 by decide, show (0 : Int) ≤ 9223372036854775807 by decide⟩
  | succ n => exact ⟨W_lo _, W_hi _⟩
theorem b_ad {w : World} {A : Option Addr} {n : Nat} {xs : List Int} (h : (Kd.int .i64).C w A n xs) (hn : 0 < n) : ∃ ad, A = some ad ∧ ∀ j : Nat, j < n → w.cell? (ad.add j) = some (.int .i64 (xs.getD j 0)) := by
  obtain ⟨ad, ha, _⟩ := Kd.at_int h 0 (by omega) (by omega)
  refine ⟨ad, ha, fun j hj => ?_⟩
  obtain ⟨ad2, ha2, h2⟩ := Kd.at_int h (j : Int) (by omega) (by omega)
  rw [ha] at ha2
  obtain rfl := Option.some.inj ha2
  rw [Int.toNat_natCast] at h2
  rw [h2, rd, Int.toNat_natCast]
theorem b_cell {w : World} {ad : Addr} {n : Nat} {xs : List Int} (h : (Kd.int .i64).C w (some ad) n xs) (j : Nat) (hj : j < n) : w.cell? (ad.add j) = some (.int .i64 (xs.getD j 0)) := by
  obtain ⟨ad2, ha, hw⟩ := b_ad h (by omega)
  obtain rfl := Option.some.inj ha
  exact hw j hj
theorem weight_c (b low mid top r : Int) (W : World) (hr : weightF b low mid top = r) : Calls Try.prog 14 #[.int .i64 b, .int .i64 low, .int .i64 mid, .int .i64 top] W fun e w' => e = .returned (.int .i64 r) ∧ Drawn0 W w' := by
  subst hr
  exact mel_Weight.calls b low mid top _ W rfl
set_option maxHeartbeats 8000000 in
theorem band_c (g : Nat) (A : Option Addr) (n c : Nat) (p : List Int) (low mid top : Int) (w : World) (hg : w.heap[g]? = some (.cells #[.slice A n c] 25 (0, 0))) (hl : p.length = n) (hC : (Kd.int .i64).C w A n p) (hn : n ≤ 1000000) :
    Calls Try.prog 22 #[.int .i64 low, .int .i64 mid, .int .i64 top, .pointer (some ⟨g, 0, none⟩)] w fun e w' => e = .returned (.int .i64 (bandV p low mid top)) ∧ Drawn0 w w' := by
  have hc := cell_of_one hg
  have HC := Aside0.mk hC
  have HL := Aside0.mk hl
  clear hg hC hl
  go_enter Try.func22, Try.ntmps22
  go_wp2
  go_loopw [8, 15] (fun v8 v wr => ∃ (i : Nat), i ≤ n ∧ v = .int .i64 (i : Int) ∧ v8 = .int .i64 (bandS p low mid top i) ∧ Aside0 (∃ k, wr = w.drewN k)) (fun _ v _ => n - (intOf v).toNat)
  case atStart => exact ⟨0, by omega, rfl, rfl, ⟨⟨0, rfl⟩⟩⟩
  case round =>
    obtain ⟨i, hi, rfl, rfl, HK⟩ := hrel
    obtain ⟨k, rfl⟩ := HK.out
    by_cases hlt : i < n
    · obtain ⟨ad, rfl, hcs⟩ := b_ad HC.out (by omega)
      have hcell := b_cell HC.out i hlt
      obtain ⟨x, hx⟩ : ∃ x, p.getD i 0 = x := ⟨_, rfl⟩
      obtain ⟨s, hs⟩ : ∃ s, bandS p low mid top i = s := ⟨_, rfl⟩
      obtain ⟨q, hq⟩ : ∃ q, weightF (i : Int) low mid top = q := ⟨_, rfl⟩
      have HN : Aside0 (bandS p low mid top (i + 1) = wrap64 (s + wrap64 (x * q))) := ⟨by rw [bandS, hs, hx, hq]⟩
      have HQ := Aside0.mk hq
      rw [hx] at hcell
      rw [hs]
      clear hcs hx hs hq hc
      go_wp2_with (go_at_call 14; (with_reducible refine (weight_c (i : Int) low mid top q _ HQ.out).mono ?_); rintro e w' ⟨rfl, ⟨nd, rfl⟩⟩)
      go_roundw
      case rel => exact ⟨i + 1, by omega, by go_num, by rw [HN.out], ⟨⟨_, rfl⟩⟩⟩
      case measure => simp [intOf]; omega
    · obtain rfl : n = i := by omega
      obtain ⟨s, hs⟩ : ∃ s, bandS p low mid top n = s := ⟨_, rfl⟩
      have hb := bandS_in p low mid top n
      rw [hs] at hb ⊢
      have HP := Aside0.mk (prt_some hb (n := 256) (by decide) (by decide))
      have HV : Aside0 (bandV p low mid top = s / 256) := ⟨by unfold bandV; rw [HL.out, hs]⟩
      clear hs hc hb
      go_wp2_with (go_at_call 23; (with_reducible refine (round_Parts.calls _ _ _ _ _ HP.out).mono ?_); rintro e w' ⟨rfl, ⟨nd, rfl⟩⟩)
      go_ret
      exact ⟨by rw [HV.out]; rfl, ⟨⟨_, rfl⟩⟩⟩
theorem add_block (ad : Addr) (j : Nat) : (ad.add j).block = ad.block := by unfold Addr.add; split <;> rfl
theorem far_add {W W1 : World} {row : Option Nat} (h : W.grownBy W1 row) (ad : Addr) (j : Nat) (hl : ad.block < W.heap.size) (hne : row ≠ some ad.block) : W1.cell? (ad.add j) = W.cell? (ad.add j) :=
  h.cell_far _ (by rw [add_block]; exact hl) (by rw [add_block]; exact Ne.symm hne)
theorem far_at {W W1 : World} {row : Option Nat} (h : W.grownBy W1 row) (ad : Addr) (o : Nat) (hl : ad.block < W.heap.size) (hne : row ≠ some ad.block) : W1.cell? ⟨ad.block, o, none⟩ = W.cell? ⟨ad.block, o, none⟩ :=
  h.cell_far _ hl (Ne.symm hne)
def mel_Bands.f (l0 l1 : List Int) : Option (List Int) := if decide (l0.length ≤ 1000000) && decide (l1.length ≤ 1000000) then some (bandsL l0 l1) else none
set_option maxHeartbeats 16000000 in
theorem bands_go (A0 A1 : Option Addr) (n c0 m c1 : Nat) (p e : List Int) (w : World) (hl : p.length = n) (hC : (Kd.int .i64).C w A0 n p) (hn : n ≤ 1000000) (hl1 : e.length = m) (hC1 : (Kd.int .i64).C w A1 m e) (hm : m ≤ 1000000) :
    Calls Try.prog 17 #[.slice A0 n c0, .slice A1 m c1] w fun e_ w' => ∃ v0_ : Value, e_ = .returned v0_ ∧ Kd.R (Kd.int .i64) 3 w' w.heap.size (fun _ => True) v0_ (bandsL p e) ∧ Below w.heap.size w w' := by
  have hmf : ∀ (fn : Fn) (first cap : Array Value) (w : World), (Instr.makeFunc fn first cap).run Try.prog w = .ok (.func fn first cap) w := fun _ _ _ _ => rfl
  have HC0 := Aside0.mk hC
  have HC1 := Aside0.mk hC1
  have HL0 := Aside0.mk hl
  have HL1 := Aside0.mk hl1
  obtain ⟨i0, hi0, hz0, hz1, hz2⟩ := info_parts turn_info
  by_cases h2 : m < 2
  · have HE : Aside0 (bandsL p e = []) := ⟨by unfold bandsL; rw [hl1, show m - 2 = 0 by omega]; rfl⟩
    clear hl hC hl1 hC1
    go_enter Try.func17, Try.ntmps17
    go_wp2
    go_loopw [5, 13] (fun v5 v wr => v5 = .slice none 0 0 ∧ v = .int .i64 0 ∧ Aside0 (Below w.heap.size w wr)) (fun _ _ _ => 0)
    case atStart => exact ⟨rfl, rfl, ⟨below_alloc (Below.refl _ _) _⟩⟩
    case round =>
      obtain ⟨rfl, rfl, HB⟩ := hrel
      go_wp2
      go_ret
      exact ⟨_, rfl, by rw [HE.out]; exact Kd.R_nil _ _ _ _ _, HB.out⟩
  · obtain ⟨K, rfl⟩ : ∃ K, m = K + 2 := ⟨m - 2, by omega⟩
    have HM : Aside0 (∀ i, i < K → (bandsL p e).getD i 0 = bandV p (e.getD i 0) (e.getD (i + 1) 0) (e.getD (i + 2) 0)) := ⟨fun i hi => by
      unfold bandsL
      exact getD_map_range (e.length - 2) (fun m : Nat => bandV p (e.getD m 0) (e.getD (m + 1) 0) (e.getD (m + 2) 0)) i (by omega)⟩
    have HBL : Aside0 ((bandsL p e).length = K) := ⟨by unfold bandsL; rw [List.length_map, List.length_range]; omega⟩
    have hk2 : ((K + 2 : Nat) : Int) - 2 = (K : Int) := by omega
    clear hl hC hl1 hC1 h2
    go_enter Try.func17, Try.ntmps17
    go_wp2
    go_loopw [5, 13] (fun v5 v wr => ∃ (i : Nat) (xs : List Int), i ≤ K ∧ v = .int .i64 (i : Int) ∧ Aside0 (xs.length = i) ∧ Aside0 (∀ j, j < i → xs.getD j 0 = (bandsL p e).getD j 0) ∧ Aside0 (wr.ownsRow (w.heap.size + 1) 3 1 v5 i (nums .i64 xs)) ∧ Aside0 (wr.heap[w.heap.size]? = some (.cells #[.slice A0 n c0] 25 (0, 0))) ∧ Aside0 (Below w.heap.size w wr)) (fun _ v _ => K - (intOf v).toNat)
    case atStart => exact ⟨0, [], by omega, rfl, ⟨rfl⟩, ⟨fun j hj => by omega⟩, ⟨own_nil _ _ _ _⟩, ⟨heap_alloc_new w _⟩, ⟨below_alloc (Below.refl _ _) _⟩⟩
    case round =>
      obtain ⟨i, xs, hi, rfl, HX, HJ, HO, HG, HB⟩ := hrel
      by_cases hlt : i < K
      · have hC1 := Kd.C_below HC1.out HB.out
        obtain ⟨ad, rfl, _⟩ := b_ad hC1 (by omega)
        have k0 := b_cell hC1 i (by omega)
        have k1 := b_cell hC1 (i + 1) (by omega)
        have k2 := b_cell hC1 (i + 2) (by omega)
        rw [show ad.add (i + 1) = ⟨ad.block, ad.off + (i + 1), none⟩ by simp [Addr.add]] at k1
        rw [show ad.add (i + 2) = ⟨ad.block, ad.off + (i + 2), none⟩ by simp [Addr.add]] at k2
        obtain ⟨a, ha⟩ : ∃ a, e.getD i 0 = a := ⟨_, rfl⟩
        obtain ⟨b, hb⟩ : ∃ b, e.getD (i + 1) 0 = b := ⟨_, rfl⟩
        obtain ⟨d, hd⟩ : ∃ d, e.getD (i + 2) 0 = d := ⟨_, rfl⟩
        have HV : Aside0 ((bandsL p e).getD i 0 = bandV p a b d) := ⟨by rw [HM.out i hlt, ha, hb, hd]⟩
        rw [ha] at k0
        rw [hb] at k1
        rw [hd] at k2
        have j0 : (0 : Int) ≤ (i : Int) := by omega
        have j1 : (i : Int) < (K : Int) + 2 := by omega
        have j2 : (0 : Int) ≤ (i : Int) + 1 := by omega
        have j3 : (i : Int) + 1 < (K : Int) + 2 := by omega
        have j4 : (0 : Int) ≤ (i : Int) + 2 := by omega
        have j5 : (i : Int) + 2 < (K : Int) + 2 := by omega
        have i1 : ((i : Int) + 1).toNat = i + 1 := by omega
        have i2 : ((i : Int) + 2).toNat = i + 2 := by omega
        have i3 : IntKind.i64.wrap ((i : Int) + 1) = (i : Int) + 1 := by rw [IntKind.wrap_i64]; omega
        have i4 : IntKind.i64.wrap ((i : Int) + 2) = (i : Int) + 2 := by rw [IntKind.wrap_i64]; omega
        have hCp := Aside0.mk (Kd.C_below HC0.out HB.out)
        have hadw : ad.block < w.heap.size := by rw [← add_block ad i]; exact World.block_lt_of_cell? w _ (b_cell HC1.out i (by omega))
        have hadr : ad.block < wr.heap.size := Nat.lt_of_lt_of_le hadw HB.out.size
        have hne : u5.ownBlock ≠ some ad.block := fun h => by have := own_base HO.out ad.block h; omega
        clear ha hb hd hC1
        go_wp2
        go_region_held3 (fun w' => w'.cell? (ad.add i) = some (.int .i64 a) ∧ w'.cell? ⟨ad.block, ad.off + (i + 1), none⟩ = some (.int .i64 b) ∧ w'.cell? ⟨ad.block, ad.off + (i + 2), none⟩ = some (.int .i64 d))
          (first
            | go_keep
            | (go_split_ands
               refine ⟨?_, ?_, ?_⟩
               · (rw [far_add hgrow ad i (by simp; omega) hne]; assumption)
               · (rw [far_at hgrow ad _ (by simp; omega) hne]; assumption)
               · (rw [far_at hgrow ad _ (by simp; omega) hne]; assumption)))
          (first
            | (go_at_call 22; refine (band_c w.heap.size A0 n c0 p a b d _ (by exact HG.out) HL0.out (by repeat (first | exact hCp.out | refine Kd.C_drewN ?_ _ | refine Kd.C_drew ?_)) hn).mono ?_; rintro e w' ⟨rfl, ⟨nd, rfl⟩⟩)
            | (refine step_append_lies _ (by rfl) _ _ _ (by rfl) (w.heap.size + 1) 3 i0 _ 1 8 Try.underlying25 hi0 hz0 hz1 hz2 rfl (by omega) u5 i (nums .i64 xs) (by rfl) (pw_own_below HO.out (by repeat (first | exact Below.refl _ _ | apply below_alloc | apply pw_below_drewN | apply below_drew1))) ⟨wr.heap.size, 0, none⟩ 1 1 [.int .i64 (bandV p a b d)] (by rfl) (by rfl) (World.news_of_block (heap_alloc_new _ _)) (by simp [Value.oneCell']) (by omega) (by unfold maxLen; omega) (by omega) (by have := HB.out.size; simp; omega) (wr.heap.size + 1) (by simp) ?_; intro g cap w1 hown1 hgrow hat hlt2))
        go_wp2
        go_roundw
        case rel =>
          refine ⟨i + 1, xs ++ [bandV p a b d], by omega, by go_num, ⟨by rw [List.length_append, HX.out]; rfl⟩, ⟨?_⟩, ⟨?_⟩, ⟨?_⟩, ⟨?_⟩⟩
          · intro j hj
            by_cases h : j = i
            · subst h
              rw [HV.out, List.getD_eq_getElem?_getD, List.getElem?_append_right (by rw [HX.out]; exact Nat.le_refl _), HX.out, Nat.sub_self]; rfl
            · have := HJ.out j (by omega)
              rw [List.getD_eq_getElem?_getD] at this ⊢
              rw [List.getElem?_append_left (by rw [HX.out]; omega), this]
          · have : nums .i64 xs ++ [.int .i64 (bandV p a b d)] = nums .i64 (xs ++ [bandV p a b d]) := by simp [nums]
            rw [← this]
            exact hown1
          · have h1 := hgrow.block w.heap.size (by have := HB.out.size; have := blk_lt HG.out; simp; omega) (fun h => by have := own_base HO.out w.heap.size h.symm; omega)
            rw [h1]
            have hA : ∀ (X : World) (o : Obj), X.heap[w.heap.size]? = some (.cells #[.slice A0 n c0] 25 (0, 0)) → (X.alloc o).heap[w.heap.size]? = some (.cells #[.slice A0 n c0] 25 (0, 0)) := fun X o h => by rw [Below.heap_alloc _ _ _ (blk_lt h)]; exact h
            repeat (first | exact HG.out | apply hA | (show (World.heap (World.drewN _ _))[_]? = _; exact HG.out))
          · exact Below.grown (by repeat (first | exact HB.out | apply below_alloc | apply pw_below_drewN | apply below_drew1)) hgrow (by have := HB.out.size; simp; omega) (fun k hk => by have := own_base HO.out k hk; omega)
        case measure => simp [intOf]; omega
      · obtain rfl : K = i := by omega
        go_wp2
        go_ret
        refine ⟨_, rfl, ?_, HB.out⟩
        have hU : xs = bandsL p e := row_ext (by rw [HX.out, HBL.out]) (fun j hj => by rw [HX.out] at hj; exact HJ.out j hj)
        rw [← hU]
        exact Kd.R_of_own (enc := Value.int .i64) (h1 := fun _ => rfl) (ok := fun _ => True) (xs := xs) (by rw [HX.out]; exact own_weaken HO.out (by omega)) (fun _ _ => trivial)
theorem mel_Bands.calls (A0 : Option Addr) (c0 : Nat) (l0 : List Int) (A1 : Option Addr) (c1 : Nat) (l1 : List Int) (r : List Int) (w : World) (hr0 : Kd.C (Kd.int .i64) w A0 l0.length l0) (hc0 : l0.length ≤ c0) (hr1 : Kd.C (Kd.int .i64) w A1 l1.length l1) (hc1 : l1.length ≤ c1) (h : mel_Bands.f l0 l1 = some r) :
    Calls Try.prog 17 #[.slice A0 l0.length c0, .slice A1 l1.length c1] w fun e w' => ∃ v0_ : Value, e = .returned v0_ ∧ Kd.R (Kd.int .i64) 3 w' w.heap.size (fun _ => True) v0_ r ∧ Below w.heap.size w w' := by
  unfold mel_Bands.f at h
  split at h
  case isFalse => cases h
  rename_i hz
  obtain rfl := Option.some.inj h
  simp only [Bool.and_eq_true, decide_eq_true_eq] at hz
  exact bands_go A0 A1 _ c0 _ c1 l0 l1 w rfl hr0 hz.1 rfl hr1 hz.2

end Go.Proofs.Ytohmecfjpmapnaa.PMelSums
