-- Written by a program of this work (wip/tools) for this claim; Lean checks it.
import Derived.Test.YtohmecfjpmapnaaPMelWeightsx0
import Derived.Test.YtohmecfjpmapnaaPMelWeightsx1
namespace Go.Proofs.Ytohmecfjpmapnaa.PMelWeights
open Go.RowKit Go.Proofs.YtohmecfjpmapnaaW.PrintWords Go.Proofs.YtohmecfjpmapnaaW.PrintLast Go.Proofs.YtohmecfjpmapnaaW.PrintMore
attribute [local go_sem] max2_int min2_int max_two min_two max_three min_three max_four min_four   -- for this text's walks alone
set_option linter.unusedVariables false
set_option linter.unusedSimpArgs false

/-! ### mel_Weight: function 14 -/
def nearB (x : Int) : Bool := decide (-1073741824 ≤ x) && decide (x ≤ 1073741824)
def weightW (b low mid top : Int) : Int := if low ≤ b ∧ b < mid then 256 * (b - low) / (mid - low) else if mid ≤ b ∧ b < top then 256 * (top - b) / (top - mid) else 0
def weightF (b low mid top : Int) : Int := if nearB b = true ∧ nearB low = true ∧ nearB mid = true ∧ nearB top = true then weightW b low mid top else 0
def mel_Weight.f (a0 a1 a2 a3 : Int) : Option (Int) := some (weightF a0 a1 a2 a3)
theorem near_yes {x : Int} (h : nearB x = true) : -1073741824 ≤ x ∧ x ≤ 1073741824 := by simpa [nearB] using h
theorem near_no {x : Int} (h : ¬ nearB x = true) : decide (x < -1073741824) = true ∨ decide (x < -1073741824) = false ∧ decide (1073741824 < x) = true := by
  simp only [nearB, Bool.and_eq_true, decide_eq_true_eq, Classical.not_and_iff_not_or_not] at h
  simp only [decide_eq_true_eq, decide_eq_false_iff_not]
  omega
theorem near_dec {x : Int} (h : nearB x = true) : decide (x < -1073741824) = false ∧ decide (1073741824 < x) = false := by
  have := near_yes h
  simp only [decide_eq_false_iff_not]
  omega
set_option maxHeartbeats 16000000 in
theorem weight_near (b low mid top : Int) (w : World) (h0 : nearB b = true) (h1 : nearB low = true) (h2 : nearB mid = true) (h3 : nearB top = true) :
    Calls Try.prog 14 #[.int .i64 b, .int .i64 low, .int .i64 mid, .int .i64 top] w fun e w' => e = .returned (.int .i64 (weightW b low mid top)) ∧ w = w' := by
  have r0 := near_yes h0
  have r1 := near_yes h1
  have r2 := near_yes h2
  have r3 := near_yes h3
  obtain ⟨d0, e0⟩ := near_dec h0
  obtain ⟨d1, e1⟩ := near_dec h1
  obtain ⟨d2, e2⟩ := near_dec h2
  obtain ⟨d3, e3⟩ := near_dec h3
  have hcase : (low ≤ b ∧ b < mid ∧ weightW b low mid top = 256 * (b - low) / (mid - low)) ∨ (¬ (low ≤ b ∧ b < mid) ∧ mid ≤ b ∧ b < top ∧ weightW b low mid top = 256 * (top - b) / (top - mid)) ∨ (¬ (low ≤ b ∧ b < mid) ∧ ¬ (mid ≤ b ∧ b < top) ∧ weightW b low mid top = 0) := by
    unfold weightW
    by_cases c1 : low ≤ b ∧ b < mid
    · exact .inl ⟨c1.1, c1.2, if_pos c1⟩
    · by_cases c2 : mid ≤ b ∧ b < top
      · exact .inr (.inl ⟨c1, c2.1, c2.2, by rw [if_neg c1, if_pos c2]⟩)
      · exact .inr (.inr ⟨c1, c2, by rw [if_neg c1, if_neg c2]⟩)
  have x0 : ∀ w : World, (Instr.index 22 (.agg #[.int .i64 b, .int .i64 low, .int .i64 mid, .int .i64 top]) (.int .i64 0)).run Try.prog w = .ok (.int .i64 b) w := fun _ => by kernel_rfl
  have x1 : ∀ w : World, (Instr.index 22 (.agg #[.int .i64 b, .int .i64 low, .int .i64 mid, .int .i64 top]) (.int .i64 1)).run Try.prog w = .ok (.int .i64 low) w := fun _ => by kernel_rfl
  have x2 : ∀ w : World, (Instr.index 22 (.agg #[.int .i64 b, .int .i64 low, .int .i64 mid, .int .i64 top]) (.int .i64 2)).run Try.prog w = .ok (.int .i64 mid) w := fun _ => by kernel_rfl
  have x3 : ∀ w : World, (Instr.index 22 (.agg #[.int .i64 b, .int .i64 low, .int .i64 mid, .int .i64 top]) (.int .i64 3)).run Try.prog w = .ok (.int .i64 top) w := fun _ => by kernel_rfl
  clear h0 h1 h2 h3
  rcases hcase with ⟨c1, c2, hv⟩ | ⟨c0, c1, c2, hv⟩ | ⟨c0, c1, hv⟩
  · have HV := Aside0.mk hv
    have p1 : decide (low ≤ b) = true := decide_eq_true c1
    have p2 : decide (b < mid) = true := decide_eq_true c2
    have p3 : (mid - low == 0) = false := by simp; omega
    clear hv
    go_enter Try.func14, Try.ntmps14
    go_wp2
    go_loop [16] (fun v => ∃ n : Int, (n = 0 ∨ n = 1 ∨ n = 2 ∨ n = 3 ∨ n = 4) ∧ v = .int .i64 n) (fun v => 4 - (intOf v).toNat)
    case atStart => exact ⟨0, .inl rfl, rfl⟩
    case round =>
      obtain ⟨n, hn, rfl⟩ := hrel
      rcases hn with rfl | rfl | rfl | rfl | rfl
      · go_wp2
        go_round
        case rel => exact ⟨1, .inr (.inl rfl), rfl⟩
        case measure => simp [intOf]
      · go_wp2
        go_round
        case rel => exact ⟨2, .inr (.inr (.inl rfl)), rfl⟩
        case measure => simp [intOf]
      · go_wp2
        go_round
        case rel => exact ⟨3, .inr (.inr (.inr (.inl rfl))), rfl⟩
        case measure => simp [intOf]
      · go_wp2
        go_round
        case rel => exact ⟨4, .inr (.inr (.inr (.inr rfl))), rfl⟩
        case measure => simp [intOf]
      · go_wp2
        go_ret
        exact ⟨by rw [HV.out]; rfl, rfl⟩
  · have HV := Aside0.mk hv
    have p0 : decide (low ≤ b) = true ∧ decide (b < mid) = false ∨ decide (low ≤ b) = false := by
      simp only [decide_eq_true_eq, decide_eq_false_iff_not]; omega
    have p1 : decide (mid ≤ b) = true := decide_eq_true c1
    have p2 : decide (b < top) = true := decide_eq_true c2
    have p3 : (top - mid == 0) = false := by simp; omega
    clear hv c0
    rcases p0 with ⟨p5, p6⟩ | p5
    · go_enter Try.func14, Try.ntmps14
      go_wp2
      go_loop [16] (fun v => ∃ n : Int, (n = 0 ∨ n = 1 ∨ n = 2 ∨ n = 3 ∨ n = 4) ∧ v = .int .i64 n) (fun v => 4 - (intOf v).toNat)
      case atStart => exact ⟨0, .inl rfl, rfl⟩
      case round =>
        obtain ⟨n, hn, rfl⟩ := hrel
        rcases hn with rfl | rfl | rfl | rfl | rfl
        · go_wp2
          go_round
          case rel => exact ⟨1, .inr (.inl rfl), rfl⟩
          case measure => simp [intOf]
        · go_wp2
          go_round
          case rel => exact ⟨2, .inr (.inr (.inl rfl)), rfl⟩
          case measure => simp [intOf]
        · go_wp2
          go_round
          case rel => exact ⟨3, .inr (.inr (.inr (.inl rfl))), rfl⟩
          case measure => simp [intOf]
        · go_wp2
          go_round
          case rel => exact ⟨4, .inr (.inr (.inr (.inr rfl))), rfl⟩
          case measure => simp [intOf]
        · go_wp2
          go_ret
          exact ⟨by rw [HV.out]; rfl, rfl⟩
    · go_enter Try.func14, Try.ntmps14
      go_wp2
      go_loop [16] (fun v => ∃ n : Int, (n = 0 ∨ n = 1 ∨ n = 2 ∨ n = 3 ∨ n = 4) ∧ v = .int .i64 n) (fun v => 4 - (intOf v).toNat)
      case atStart => exact ⟨0, .inl rfl, rfl⟩
      case round =>
        obtain ⟨n, hn, rfl⟩ := hrel
        rcases hn with rfl | rfl | rfl | rfl | rfl
        · go_wp2
          go_round
          case rel => exact ⟨1, .inr (.inl rfl), rfl⟩
          case measure => simp [intOf]
        · go_wp2
          go_round
          case rel => exact ⟨2, .inr (.inr (.inl rfl)), rfl⟩
          case measure => simp [intOf]
        · go_wp2
          go_round
          case rel => exact ⟨3, .inr (.inr (.inr (.inl rfl))), rfl⟩
          case measure => simp [intOf]
        · go_wp2
          go_round
          case rel => exact ⟨4, .inr (.inr (.inr (.inr rfl))), rfl⟩
          case measure => simp [intOf]
        · go_wp2
          go_ret
          exact ⟨by rw [HV.out]; rfl, rfl⟩
  · have HV := Aside0.mk hv
    have p0 : decide (low ≤ b) = true ∧ decide (b < mid) = false ∨ decide (low ≤ b) = false := by
      simp only [decide_eq_true_eq, decide_eq_false_iff_not]; omega
    have p1 : decide (mid ≤ b) = true ∧ decide (b < top) = false ∨ decide (mid ≤ b) = false := by
      simp only [decide_eq_true_eq, decide_eq_false_iff_not]; omega
    clear hv c0 c1
    rcases p0 with ⟨p5, p6⟩ | p5 <;> rcases p1 with ⟨p7, p8⟩ | p7
    · go_enter Try.func14, Try.ntmps14
      go_wp2
      go_loop [16] (fun v => ∃ n : Int, (n = 0 ∨ n = 1 ∨ n = 2 ∨ n = 3 ∨ n = 4) ∧ v = .int .i64 n) (fun v => 4 - (intOf v).toNat)
      case atStart => exact ⟨0, .inl rfl, rfl⟩
      case round =>
        obtain ⟨n, hn, rfl⟩ := hrel
        rcases hn with rfl | rfl | rfl | rfl | rfl
        · go_wp2
          go_round
          case rel => exact ⟨1, .inr (.inl rfl), rfl⟩
          case measure => simp [intOf]
        · go_wp2
          go_round
          case rel => exact ⟨2, .inr (.inr (.inl rfl)), rfl⟩
          case measure => simp [intOf]
        · go_wp2
          go_round
          case rel => exact ⟨3, .inr (.inr (.inr (.inl rfl))), rfl⟩
          case measure => simp [intOf]
        · go_wp2
          go_round
          case rel => exact ⟨4, .inr (.inr (.inr (.inr rfl))), rfl⟩
          case measure => simp [intOf]
        · go_wp2
          go_ret
          exact ⟨by rw [HV.out]; rfl, rfl⟩
    · go_enter Try.func14, Try.ntmps14
      go_wp2
      go_loop [16] (fun v => ∃ n : Int, (n = 0 ∨ n = 1 ∨ n = 2 ∨ n = 3 ∨ n = 4) ∧ v = .int .i64 n) (fun v => 4 - (intOf v).toNat)
      case atStart => exact ⟨0, .inl rfl, rfl⟩
      case round =>
        obtain ⟨n, hn, rfl⟩ := hrel
        rcases hn with rfl | rfl | rfl | rfl | rfl
        · go_wp2
          go_round
          case rel => exact ⟨1, .inr (.inl rfl), rfl⟩
          case measure => simp [intOf]
        · go_wp2
          go_round
          case rel => exact ⟨2, .inr (.inr (.inl rfl)), rfl⟩
          case measure => simp [intOf]
        · go_wp2
          go_round
          case rel => exact ⟨3, .inr (.inr (.inr (.inl rfl))), rfl⟩
          case measure => simp [intOf]
        · go_wp2
          go_round
          case rel => exact ⟨4, .inr (.inr (.inr (.inr rfl))), rfl⟩
          case measure => simp [intOf]
        · go_wp2
          go_ret
          exact ⟨by rw [HV.out]; rfl, rfl⟩
    · go_enter Try.func14, Try.ntmps14
      go_wp2
      go_loop [16] (fun v => ∃ n : Int, (n = 0 ∨ n = 1 ∨ n = 2 ∨ n = 3 ∨ n = 4) ∧ v = .int .i64 n) (fun v => 4 - (intOf v).toNat)
      case atStart => exact ⟨0, .inl rfl, rfl⟩
      case round =>
        obtain ⟨n, hn, rfl⟩ := hrel
        rcases hn with rfl | rfl | rfl | rfl | rfl
        · go_wp2
          go_round
          case rel => exact ⟨1, .inr (.inl rfl), rfl⟩
          case measure => simp [intOf]
        · go_wp2
          go_round
          case rel => exact ⟨2, .inr (.inr (.inl rfl)), rfl⟩
          case measure => simp [intOf]
        · go_wp2
          go_round
          case rel => exact ⟨3, .inr (.inr (.inr (.inl rfl))), rfl⟩
          case measure => simp [intOf]
        · go_wp2
          go_round
          case rel => exact ⟨4, .inr (.inr (.inr (.inr rfl))), rfl⟩
          case measure => simp [intOf]
        · go_wp2
          go_ret
          exact ⟨by rw [HV.out]; rfl, rfl⟩
    · go_enter Try.func14, Try.ntmps14
      go_wp2
      go_loop [16] (fun v => ∃ n : Int, (n = 0 ∨ n = 1 ∨ n = 2 ∨ n = 3 ∨ n = 4) ∧ v = .int .i64 n) (fun v => 4 - (intOf v).toNat)
      case atStart => exact ⟨0, .inl rfl, rfl⟩
      case round =>
        obtain ⟨n, hn, rfl⟩ := hrel
        rcases hn with rfl | rfl | rfl | rfl | rfl
        · go_wp2
          go_round
          case rel => exact ⟨1, .inr (.inl rfl), rfl⟩
          case measure => simp [intOf]
        · go_wp2
          go_round
          case rel => exact ⟨2, .inr (.inr (.inl rfl)), rfl⟩
          case measure => simp [intOf]
        · go_wp2
          go_round
          case rel => exact ⟨3, .inr (.inr (.inr (.inl rfl))), rfl⟩
          case measure => simp [intOf]
        · go_wp2
          go_round
          case rel => exact ⟨4, .inr (.inr (.inr (.inr rfl))), rfl⟩
          case measure => simp [intOf]
        · go_wp2
          go_ret
          exact ⟨by rw [HV.out]; rfl, rfl⟩
set_option maxHeartbeats 16000000 in
theorem weight_far (b low mid top : Int) (w : World) (K : Nat) (x : Int) (hK : K < 4) (hx : x = [b, low, mid, top].getD K 0) (hfar : ¬ nearB x = true) (hnear : ∀ j, j < K → nearB ([b, low, mid, top].getD j 0) = true) :
    Calls Try.prog 14 #[.int .i64 b, .int .i64 low, .int .i64 mid, .int .i64 top] w fun e w' => e = .returned (.int .i64 0) ∧ w = w' := by
  have x0 : ∀ w : World, (Instr.index 22 (.agg #[.int .i64 b, .int .i64 low, .int .i64 mid, .int .i64 top]) (.int .i64 0)).run Try.prog w = .ok (.int .i64 b) w := fun _ => by kernel_rfl
  have x1 : ∀ w : World, (Instr.index 22 (.agg #[.int .i64 b, .int .i64 low, .int .i64 mid, .int .i64 top]) (.int .i64 1)).run Try.prog w = .ok (.int .i64 low) w := fun _ => by kernel_rfl
  have x2 : ∀ w : World, (Instr.index 22 (.agg #[.int .i64 b, .int .i64 low, .int .i64 mid, .int .i64 top]) (.int .i64 2)).run Try.prog w = .ok (.int .i64 mid) w := fun _ => by kernel_rfl
  have x3 : ∀ w : World, (Instr.index 22 (.agg #[.int .i64 b, .int .i64 low, .int .i64 mid, .int .i64 top]) (.int .i64 3)).run Try.prog w = .ok (.int .i64 top) w := fun _ => by kernel_rfl
  have hf := near_no hfar
  have hK4 : K = 0 ∨ K = 1 ∨ K = 2 ∨ K = 3 := by omega
  rcases hK4 with rfl | rfl | rfl | rfl
  · have hx' : x = b := hx
    subst hx'
    clear hx hfar hnear hK
    rcases hf with f1 | ⟨f1, f2⟩
    all_goals
      go_enter Try.func14, Try.ntmps14
      go_wp2
      go_loop [16] (fun v => ∃ n : Int, (n = 0) ∧ v = .int .i64 n) (fun v => 4 - (intOf v).toNat)
      case atStart => exact ⟨0, rfl, rfl⟩
      case round =>
        obtain ⟨n, hn, rfl⟩ := hrel
        rcases hn with rfl
        · go_wp2
          go_ret
          exact ⟨rfl, rfl⟩
  · have hx' : x = low := hx
    subst hx'
    obtain ⟨d0, e0⟩ := near_dec (hnear 0 (by decide))
    have d0' : decide (b < -1073741824) = false := d0
    have e0' : decide (1073741824 < b) = false := e0
    clear hx hfar hnear hK d0 e0
    rcases hf with f1 | ⟨f1, f2⟩
    all_goals
      go_enter Try.func14, Try.ntmps14
      go_wp2
      go_loop [16] (fun v => ∃ n : Int, (n = 0 ∨ n = 1) ∧ v = .int .i64 n) (fun v => 4 - (intOf v).toNat)
      case atStart => exact ⟨0, .inl rfl, rfl⟩
      case round =>
        obtain ⟨n, hn, rfl⟩ := hrel
        rcases hn with rfl | rfl
        · go_wp2
          go_round
          case rel => exact ⟨1, .inr (rfl), rfl⟩
          case measure => simp [intOf]
        · go_wp2
          go_ret
          exact ⟨rfl, rfl⟩
  · have hx' : x = mid := hx
    subst hx'
    obtain ⟨d0, e0⟩ := near_dec (hnear 0 (by decide))
    have d0' : decide (b < -1073741824) = false := d0
    have e0' : decide (1073741824 < b) = false := e0
    obtain ⟨d1, e1⟩ := near_dec (hnear 1 (by decide))
    have d1' : decide (low < -1073741824) = false := d1
    have e1' : decide (1073741824 < low) = false := e1
    clear hx hfar hnear hK d0 e0 d1 e1
    rcases hf with f1 | ⟨f1, f2⟩
    all_goals
      go_enter Try.func14, Try.ntmps14
      go_wp2
      go_loop [16] (fun v => ∃ n : Int, (n = 0 ∨ n = 1 ∨ n = 2) ∧ v = .int .i64 n) (fun v => 4 - (intOf v).toNat)
      case atStart => exact ⟨0, .inl rfl, rfl⟩
      case round =>
        obtain ⟨n, hn, rfl⟩ := hrel
        rcases hn with rfl | rfl | rfl
        · go_wp2
          go_round
          case rel => exact ⟨1, .inr (.inl rfl), rfl⟩
          case measure => simp [intOf]
        · go_wp2
          go_round
          case rel => exact ⟨2, .inr (.inr (rfl)), rfl⟩
          case measure => simp [intOf]
        · go_wp2
          go_ret
          exact ⟨rfl, rfl⟩
  · have hx' : x = top := hx
    subst hx'
    obtain ⟨d0, e0⟩ := near_dec (hnear 0 (by decide))
    have d0' : decide (b < -1073741824) = false := d0
    have e0' : decide (1073741824 < b) = false := e0
    obtain ⟨d1, e1⟩ := near_dec (hnear 1 (by decide))
    have d1' : decide (low < -1073741824) = false := d1
    have e1' : decide (1073741824 < low) = false := e1
    obtain ⟨d2, e2⟩ := near_dec (hnear 2 (by decide))
    have d2' : decide (mid < -1073741824) = false := d2
    have e2' : decide (1073741824 < mid) = false := e2
    clear hx hfar hnear hK d0 e0 d1 e1 d2 e2
    rcases hf with f1 | ⟨f1, f2⟩
    all_goals
      go_enter Try.func14, Try.ntmps14
      go_wp2
      go_loop [16] (fun v => ∃ n : Int, (n = 0 ∨ n = 1 ∨ n = 2 ∨ n = 3) ∧ v = .int .i64 n) (fun v => 4 - (intOf v).toNat)
      case atStart => exact ⟨0, .inl rfl, rfl⟩
      case round =>
        obtain ⟨n, hn, rfl⟩ := hrel
        rcases hn with rfl | rfl | rfl | rfl
        · go_wp2
          go_round
          case rel => exact ⟨1, .inr (.inl rfl), rfl⟩
          case measure => simp [intOf]
        · go_wp2
          go_round
          case rel => exact ⟨2, .inr (.inr (.inl rfl)), rfl⟩
          case measure => simp [intOf]
        · go_wp2
          go_round
          case rel => exact ⟨3, .inr (.inr (.inr (rfl))), rfl⟩
          case measure => simp [intOf]
        · go_wp2
          go_ret
          exact ⟨rfl, rfl⟩
theorem mel_Weight.calls (a0 a1 a2 a3 : Int) (r : Int) (w : World) (h : mel_Weight.f a0 a1 a2 a3 = some r) :
    Calls Try.prog 14 #[.int .i64 a0, .int .i64 a1, .int .i64 a2, .int .i64 a3] w fun e w' => e = .returned (.int .i64 r) ∧ Drawn0 w w' := by
  obtain rfl := Option.some.inj h
  have key : Calls Try.prog 14 #[.int .i64 a0, .int .i64 a1, .int .i64 a2, .int .i64 a3] w fun e w' => e = .returned (.int .i64 (weightF a0 a1 a2 a3)) ∧ w = w' := by
    unfold weightF
    by_cases h0 : nearB a0 = true
    · by_cases h1 : nearB a1 = true
      · by_cases h2 : nearB a2 = true
        · by_cases h3 : nearB a3 = true
          · rw [if_pos ⟨h0, h1, h2, h3⟩]; exact weight_near a0 a1 a2 a3 w h0 h1 h2 h3
          · rw [if_neg (fun h => h3 h.2.2.2)]; exact weight_far a0 a1 a2 a3 w 3 a3 (by decide) rfl h3 (fun j hj => by match j, hj with | 0, _ => exact h0 | 1, _ => exact h1 | 2, _ => exact h2)
        · rw [if_neg (fun h => h2 h.2.2.1)]; exact weight_far a0 a1 a2 a3 w 2 a2 (by decide) rfl h2 (fun j hj => by match j, hj with | 0, _ => exact h0 | 1, _ => exact h1)
      · rw [if_neg (fun h => h1 h.2.1)]; exact weight_far a0 a1 a2 a3 w 1 a1 (by decide) rfl h1 (fun j hj => by match j, hj with | 0, _ => exact h0)
    · rw [if_neg (fun h => h0 h.1)]; exact weight_far a0 a1 a2 a3 w 0 a0 (by decide) rfl h0 (fun j hj => by omega)
  exact key.mono fun e w' ⟨a, b⟩ => by
    subst b
    exact ⟨a, ⟨0, rfl⟩⟩

/-! ### earshotlaw11_awake: function 8 -/
def earshotlaw11_awake.f (k : Nat)  : Option (Bool) := (mel_Edges.f 9 1).bind fun t106 => ((earshotref04_Same.f k t106 (([0, 4, 8] : List Int))).bind fun t112 => ((mel_Weight.f 3 2 4 8).bind fun t113 => (if t113 = 128 then ((mel_Weight.f 5 2 4 8).bind fun t114 => (if t114 = 192 then (some t112) else (some false))) else (some false))))
theorem earshotlaw11_awake.mono : ∀ k, LeO (earshotlaw11_awake.f k ) (earshotlaw11_awake.f (k + 1) ) := by
  intro  k
  unfold earshotlaw11_awake.f
  repeat' first
      | (with_reducible exact earshotref04_Same.mono _ _ _)
      | (with_reducible exact LeO.refl _)
      | (with_reducible exact LeO.none _)
      | (with_reducible refine LeO.ite ?_ ?_)
      | (with_reducible refine LeO.bind ?_ (fun _ => ?_))
      | exact earshotref04_Same.mono _ _ _
      | exact LeO.none _
      | refine LeO.ite ?_ ?_
      | refine LeO.bind ?_ (fun _ => ?_)
set_option maxHeartbeats 8000000 in
set_option maxRecDepth 100000 in
theorem earshotlaw11_awake.calls (k : Nat)  (r : Bool) (w : World) (h : earshotlaw11_awake.f k  = some r) :
    Calls Try.prog 8 #[] w fun e w' => e = .returned (.bool r) ∧ Below w.heap.size w w' := by
  have HB := Aside0.mk (Below.refl w.heap.size w)
  have H : ((mel_Edges.f 9 1).bind fun t106 => ((earshotref04_Same.f k t106 (([0, 4, 8] : List Int))).bind fun t112 => ((mel_Weight.f 3 2 4 8).bind fun t113 => (if t113 = 128 then ((mel_Weight.f 5 2 4 8).bind fun t114 => (if t114 = 192 then (some t112) else (some false))) else (some false))))) = some r := h
  clear h
  replace H := Option.bind_eq_some_iff.mp H
  obtain ⟨t106, A10, H⟩ := H
  replace H : ((earshotref04_Same.f k t106 (([0, 4, 8] : List Int))).bind fun t112 => ((mel_Weight.f 3 2 4 8).bind fun t113 => (if t113 = 128 then ((mel_Weight.f 5 2 4 8).bind fun t114 => (if t114 = 192 then (some t112) else (some false))) else (some false)))) = some r := H
  have A1 := Aside0.mk A10
  clear A10
  obtain ⟨y109, hy109⟩ : ∃ y_ : List Int, y_ = (([0, 4, 8] : List Int)) := ⟨_, rfl⟩
  replace H : ((earshotref04_Same.f k t106 y109).bind fun t112 => ((mel_Weight.f 3 2 4 8).bind fun t113 => (if t113 = 128 then ((mel_Weight.f 5 2 4 8).bind fun t114 => (if t114 = 192 then (some t112) else (some false))) else (some false)))) = some r := by first | (rw [hy109]; with_reducible exact H) | (have H2_ := (Option.bind_some _ _).symm.trans H; rw [hy109]; with_reducible exact H2_) | (have H2_ := (Option.bind_some _ _).symm.trans H; with_reducible exact H2_) | with_reducible exact H | (rw [hy109]; exact H) | exact H
  have Ny109 := Aside0.mk hy109
  clear hy109
  replace H := Option.bind_eq_some_iff.mp H
  obtain ⟨t112, A20, H⟩ := H
  replace H : ((mel_Weight.f 3 2 4 8).bind fun t113 => (if t113 = 128 then ((mel_Weight.f 5 2 4 8).bind fun t114 => (if t114 = 192 then (some t112) else (some false))) else (some false))) = some r := H
  have A2 := Aside0.mk A20
  clear A20
  replace H := Option.bind_eq_some_iff.mp H
  obtain ⟨t113, A30, H⟩ := H
  replace H : (if t113 = 128 then ((mel_Weight.f 5 2 4 8).bind fun t114 => (if t114 = 192 then (some t112) else (some false))) else (some false)) = some r := H
  have A3 := Aside0.mk A30
  clear A30
  by_cases c4 : t113 = 128
  · rw [if_pos c4] at H
    have c4b0 : (t113 == 128) = true := beq_iff_eq.mpr c4
    have c4b1 : (t113 != 128) = false := bne_eq_false_iff_eq.mpr c4
    clear c4
    replace H := Option.bind_eq_some_iff.mp H
    obtain ⟨t114, A50, H⟩ := H
    replace H : (if t114 = 192 then (some t112) else (some false)) = some r := H
    have A5 := Aside0.mk A50
    clear A50
    by_cases c6 : t114 = 192
    · rw [if_pos c6] at H
      have c6b0 : (t114 == 192) = true := beq_iff_eq.mpr c6
      have c6b1 : (t114 != 192) = false := bne_eq_false_iff_eq.mpr c6
      clear c6
      obtain rfl := Option.some.inj H
      go_enter Try.func8, Try.ntmps8
      go_wp2_with (first | ((with_reducible refine gate_callee (f := 10) rfl ?_); refine goesL_ (some 2) rfl rfl Try.func10 (by kernel_rfl) rfl #[.int .i64 9, .int .i64 1] rfl (by (try simp only [List.map_toArray, List.map_cons, List.map_nil]); first | done | rfl | (simp only [List.length_drop, List.length_take]; rfl)) ?_; (with_reducible refine (mel_Edges.calls 9 1 t106 _ A1.out).mono ?_); rintro e w7 ⟨v107, rfl, ho0, hb⟩; refine ⟨_, rfl, ?_⟩; have n0_ := Aside0.mk (Kd.R_lower ho0 (below_size (by repeat (first | (with_reducible first | exact HB.out | apply below_alloc | apply pw_below_drewN | apply below_drew1) | exact HB.out)))); have n1_ := Aside0.mk (below_step (by repeat (first | (with_reducible first | exact HB.out | apply below_alloc | apply pw_below_drewN | apply below_drew1) | exact HB.out)) hb); clear HB; have HO108 := n0_; have HB := n1_; clear n0_ n1_; (try clear hb); (try clear hb2); (try clear hk); (try clear hi); (try clear ho0)) | ((with_reducible refine gate_dst (N := 3) rfl ?_); refine Kd.R_lit (Kd.int .i64) _ 3 ?hg (N := 3) ?hd (xs := ([0, 4, 8] : List Int)) (inner := [.int .i64 0, .int .i64 4, .int .i64 8]) (ok := fun _ => True) (okp := fun _ => True) ?hr ?hp (fun _ hk => hk) trivial (Below.refl _ _) (Nat.le_refl _) (by simp) ?_; (case hd => rfl); (case hg => first | rfl | exact wanted_on rfl rfl rfl (by first | assumption | rfl | (simp [*]; done))); (case hr => first | (go_simp; done) | (go_simp; rfl)); (case hp => exact (Reps.one (show Kd.M (Kd.int .i64) _ _ _ 0 [.int .i64 0] from rfl) (Reps.one (show Kd.M (Kd.int .i64) _ _ _ 4 [.int .i64 4] from rfl) (Reps.one (show Kd.M (Kd.int .i64) _ _ _ 8 [.int .i64 8] from rfl) (Reps.none _ _))))); intro v110 w8 ho9 hb hg_ hnew_; clear hg_ hnew_; (first | rw [← Ny109.out] at ho9 | (simp only [Int.reduceToNat] at ho9; rw [← Ny109.out] at ho9)); have n0_ := Aside0.mk (Kd.R_elder' (by (with_reducible repeat (first | apply Kd.R_alloc | apply Kd.R_drewN | apply Kd.R_drew)); (first | exact HO108.out | exact Kd.R_mono HO108.out (fun _ _ => trivial) | exact Kd.R_mono HO108.out (fun _ hk => hk.1))) (Kd.R_base ho9) hb); have n1_ := Aside0.mk (Kd.R_lower (Kd.R_new' ho9 (Kd.R_lt (by (with_reducible repeat (first | apply Kd.R_alloc | apply Kd.R_drewN | apply Kd.R_drew)); (first | exact HO108.out | exact Kd.R_mono HO108.out (fun _ _ => trivial) | exact Kd.R_mono HO108.out (fun _ hk => hk.1))))) (below_size (by repeat (first | (with_reducible first | exact HB.out | apply below_alloc | apply pw_below_drewN | apply below_drew1) | exact HB.out)))); have n2_ := Aside0.mk (below_step (by repeat (first | (with_reducible first | exact HB.out | apply below_alloc | apply pw_below_drewN | apply below_drew1) | exact HB.out)) hb); clear HO108; clear HB; have HO108 := n0_; have HO111 := n1_; have HB := n2_; clear n0_ n1_ n2_; clear hb ho9; obtain ⟨Ao10, co10, eo10⟩ := Kd.R_slice HO108.out; subst eo10; obtain ⟨Ao11, co11, eo11⟩ := Kd.R_slice HO111.out; subst eo11) | ((with_reducible refine gate_callee (f := 9) rfl ?_); refine goesL_ (some 4) rfl rfl Try.func9 (by kernel_rfl) rfl #[.slice Ao10 t106.length co10, .slice Ao11 y109.length co11] rfl (by (try simp only [List.map_toArray, List.map_cons, List.map_nil]); first | done | rfl | (simp only [List.length_drop, List.length_take]; rfl)) ?_; (with_reducible refine (earshotref04_Same.calls k _ _ t106 _ _ y109 t112 _ ?side1 ?side2 ?side3 ?side4 A2.out).mono ?_); (case side1 => repeat (first | exact (Kd.R_reads' HO108.out).2.2 | (with_reducible refine Kd.C_alloc ?_ _) | (with_reducible refine Kd.C_drewN ?_ _) | (with_reducible refine Kd.C_drew ?_))); (case side2 => exact (Kd.R_reads' HO108.out).2.1); (case side3 => repeat (first | exact (Kd.R_reads' HO111.out).2.2 | (with_reducible refine Kd.C_alloc ?_ _) | (with_reducible refine Kd.C_drewN ?_ _) | (with_reducible refine Kd.C_drew ?_))); (case side4 => exact (Kd.R_reads' HO111.out).2.1); rintro e w' ⟨rfl, ⟨nd, rfl⟩⟩; refine ⟨_, rfl, ?_⟩) | ((with_reducible refine gate_callee (f := 14) rfl ?_); refine goesL_ (some 5) rfl rfl Try.func14 (by kernel_rfl) rfl #[.int .i64 3, .int .i64 2, .int .i64 4, .int .i64 8] rfl (by (try simp only [List.map_toArray, List.map_cons, List.map_nil]); first | done | rfl | (simp only [List.length_drop, List.length_take]; rfl)) ?_; (with_reducible refine (mel_Weight.calls 3 2 4 8 t113 _ A3.out).mono ?_); rintro e w' ⟨rfl, ⟨nd, rfl⟩⟩; refine ⟨_, rfl, ?_⟩) | (go_at_call 14; (with_reducible refine (mel_Weight.calls 5 2 4 8 t114 _ A5.out).mono ?_); rintro e w' ⟨rfl, ⟨nd, rfl⟩⟩))
      go_ret
      exact ⟨by first | rfl | (simp [errW_none, errW_some] <;> rfl) | (simp [*, errW_none, errW_some] <;> rfl), by repeat (first | (with_reducible first | exact HB.out | apply below_alloc | apply pw_below_drewN | apply below_drew1) | exact HB.out)⟩
    · rw [if_neg c6] at H
      have c6b0 : (t114 == 192) = false := beq_eq_false_iff_ne.mpr c6
      have c6b1 : (t114 != 192) = true := bne_iff_ne.mpr c6
      obtain rfl := Option.some.inj H
      go_enter Try.func8, Try.ntmps8
      go_wp2_with (first | ((with_reducible refine gate_callee (f := 10) rfl ?_); refine goesL_ (some 2) rfl rfl Try.func10 (by kernel_rfl) rfl #[.int .i64 9, .int .i64 1] rfl (by (try simp only [List.map_toArray, List.map_cons, List.map_nil]); first | done | rfl | (simp only [List.length_drop, List.length_take]; rfl)) ?_; (with_reducible refine (mel_Edges.calls 9 1 t106 _ A1.out).mono ?_); rintro e w12 ⟨v107, rfl, ho0, hb⟩; refine ⟨_, rfl, ?_⟩; have n0_ := Aside0.mk (Kd.R_lower ho0 (below_size (by repeat (first | (with_reducible first | exact HB.out | apply below_alloc | apply pw_below_drewN | apply below_drew1) | exact HB.out)))); have n1_ := Aside0.mk (below_step (by repeat (first | (with_reducible first | exact HB.out | apply below_alloc | apply pw_below_drewN | apply below_drew1) | exact HB.out)) hb); clear HB; have HO108 := n0_; have HB := n1_; clear n0_ n1_; (try clear hb); (try clear hb2); (try clear hk); (try clear hi); (try clear ho0)) | ((with_reducible refine gate_dst (N := 3) rfl ?_); refine Kd.R_lit (Kd.int .i64) _ 3 ?hg (N := 3) ?hd (xs := ([0, 4, 8] : List Int)) (inner := [.int .i64 0, .int .i64 4, .int .i64 8]) (ok := fun _ => True) (okp := fun _ => True) ?hr ?hp (fun _ hk => hk) trivial (Below.refl _ _) (Nat.le_refl _) (by simp) ?_; (case hd => rfl); (case hg => first | rfl | exact wanted_on rfl rfl rfl (by first | assumption | rfl | (simp [*]; done))); (case hr => first | (go_simp; done) | (go_simp; rfl)); (case hp => exact (Reps.one (show Kd.M (Kd.int .i64) _ _ _ 0 [.int .i64 0] from rfl) (Reps.one (show Kd.M (Kd.int .i64) _ _ _ 4 [.int .i64 4] from rfl) (Reps.one (show Kd.M (Kd.int .i64) _ _ _ 8 [.int .i64 8] from rfl) (Reps.none _ _))))); intro v110 w13 ho14 hb hg_ hnew_; clear hg_ hnew_; (first | rw [← Ny109.out] at ho14 | (simp only [Int.reduceToNat] at ho14; rw [← Ny109.out] at ho14)); have n0_ := Aside0.mk (Kd.R_elder' (by (with_reducible repeat (first | apply Kd.R_alloc | apply Kd.R_drewN | apply Kd.R_drew)); (first | exact HO108.out | exact Kd.R_mono HO108.out (fun _ _ => trivial) | exact Kd.R_mono HO108.out (fun _ hk => hk.1))) (Kd.R_base ho14) hb); have n1_ := Aside0.mk (Kd.R_lower (Kd.R_new' ho14 (Kd.R_lt (by (with_reducible repeat (first | apply Kd.R_alloc | apply Kd.R_drewN | apply Kd.R_drew)); (first | exact HO108.out | exact Kd.R_mono HO108.out (fun _ _ => trivial) | exact Kd.R_mono HO108.out (fun _ hk => hk.1))))) (below_size (by repeat (first | (with_reducible first | exact HB.out | apply below_alloc | apply pw_below_drewN | apply below_drew1) | exact HB.out)))); have n2_ := Aside0.mk (below_step (by repeat (first | (with_reducible first | exact HB.out | apply below_alloc | apply pw_below_drewN | apply below_drew1) | exact HB.out)) hb); clear HO108; clear HB; have HO108 := n0_; have HO111 := n1_; have HB := n2_; clear n0_ n1_ n2_; clear hb ho14; obtain ⟨Ao15, co15, eo15⟩ := Kd.R_slice HO108.out; subst eo15; obtain ⟨Ao16, co16, eo16⟩ := Kd.R_slice HO111.out; subst eo16) | ((with_reducible refine gate_callee (f := 9) rfl ?_); refine goesL_ (some 4) rfl rfl Try.func9 (by kernel_rfl) rfl #[.slice Ao15 t106.length co15, .slice Ao16 y109.length co16] rfl (by (try simp only [List.map_toArray, List.map_cons, List.map_nil]); first | done | rfl | (simp only [List.length_drop, List.length_take]; rfl)) ?_; (with_reducible refine (earshotref04_Same.calls k _ _ t106 _ _ y109 t112 _ ?side1 ?side2 ?side3 ?side4 A2.out).mono ?_); (case side1 => repeat (first | exact (Kd.R_reads' HO108.out).2.2 | (with_reducible refine Kd.C_alloc ?_ _) | (with_reducible refine Kd.C_drewN ?_ _) | (with_reducible refine Kd.C_drew ?_))); (case side2 => exact (Kd.R_reads' HO108.out).2.1); (case side3 => repeat (first | exact (Kd.R_reads' HO111.out).2.2 | (with_reducible refine Kd.C_alloc ?_ _) | (with_reducible refine Kd.C_drewN ?_ _) | (with_reducible refine Kd.C_drew ?_))); (case side4 => exact (Kd.R_reads' HO111.out).2.1); rintro e w' ⟨rfl, ⟨nd, rfl⟩⟩; refine ⟨_, rfl, ?_⟩) | ((with_reducible refine gate_callee (f := 14) rfl ?_); refine goesL_ (some 5) rfl rfl Try.func14 (by kernel_rfl) rfl #[.int .i64 3, .int .i64 2, .int .i64 4, .int .i64 8] rfl (by (try simp only [List.map_toArray, List.map_cons, List.map_nil]); first | done | rfl | (simp only [List.length_drop, List.length_take]; rfl)) ?_; (with_reducible refine (mel_Weight.calls 3 2 4 8 t113 _ A3.out).mono ?_); rintro e w' ⟨rfl, ⟨nd, rfl⟩⟩; refine ⟨_, rfl, ?_⟩) | (go_at_call 14; (with_reducible refine (mel_Weight.calls 5 2 4 8 t114 _ A5.out).mono ?_); rintro e w' ⟨rfl, ⟨nd, rfl⟩⟩))
      go_ret
      exact ⟨by first | rfl | (simp [errW_none, errW_some] <;> rfl) | (simp [*, errW_none, errW_some] <;> rfl), by repeat (first | (with_reducible first | exact HB.out | apply below_alloc | apply pw_below_drewN | apply below_drew1) | exact HB.out)⟩
  · rw [if_neg c4] at H
    have c4b0 : (t113 == 128) = false := beq_eq_false_iff_ne.mpr c4
    have c4b1 : (t113 != 128) = true := bne_iff_ne.mpr c4
    obtain rfl := Option.some.inj H
    go_enter Try.func8, Try.ntmps8
    go_wp2_with (first | ((with_reducible refine gate_callee (f := 10) rfl ?_); refine goesL_ (some 2) rfl rfl Try.func10 (by kernel_rfl) rfl #[.int .i64 9, .int .i64 1] rfl (by (try simp only [List.map_toArray, List.map_cons, List.map_nil]); first | done | rfl | (simp only [List.length_drop, List.length_take]; rfl)) ?_; (with_reducible refine (mel_Edges.calls 9 1 t106 _ A1.out).mono ?_); rintro e w17 ⟨v107, rfl, ho0, hb⟩; refine ⟨_, rfl, ?_⟩; have n0_ := Aside0.mk (Kd.R_lower ho0 (below_size (by repeat (first | (with_reducible first | exact HB.out | apply below_alloc | apply pw_below_drewN | apply below_drew1) | exact HB.out)))); have n1_ := Aside0.mk (below_step (by repeat (first | (with_reducible first | exact HB.out | apply below_alloc | apply pw_below_drewN | apply below_drew1) | exact HB.out)) hb); clear HB; have HO108 := n0_; have HB := n1_; clear n0_ n1_; (try clear hb); (try clear hb2); (try clear hk); (try clear hi); (try clear ho0)) | ((with_reducible refine gate_dst (N := 3) rfl ?_); refine Kd.R_lit (Kd.int .i64) _ 3 ?hg (N := 3) ?hd (xs := ([0, 4, 8] : List Int)) (inner := [.int .i64 0, .int .i64 4, .int .i64 8]) (ok := fun _ => True) (okp := fun _ => True) ?hr ?hp (fun _ hk => hk) trivial (Below.refl _ _) (Nat.le_refl _) (by simp) ?_; (case hd => rfl); (case hg => first | rfl | exact wanted_on rfl rfl rfl (by first | assumption | rfl | (simp [*]; done))); (case hr => first | (go_simp; done) | (go_simp; rfl)); (case hp => exact (Reps.one (show Kd.M (Kd.int .i64) _ _ _ 0 [.int .i64 0] from rfl) (Reps.one (show Kd.M (Kd.int .i64) _ _ _ 4 [.int .i64 4] from rfl) (Reps.one (show Kd.M (Kd.int .i64) _ _ _ 8 [.int .i64 8] from rfl) (Reps.none _ _))))); intro v110 w18 ho19 hb hg_ hnew_; clear hg_ hnew_; (first | rw [← Ny109.out] at ho19 | (simp only [Int.reduceToNat] at ho19; rw [← Ny109.out] at ho19)); have n0_ := Aside0.mk (Kd.R_elder' (by (with_reducible repeat (first | apply Kd.R_alloc | apply Kd.R_drewN | apply Kd.R_drew)); (first | exact HO108.out | exact Kd.R_mono HO108.out (fun _ _ => trivial) | exact Kd.R_mono HO108.out (fun _ hk => hk.1))) (Kd.R_base ho19) hb); have n1_ := Aside0.mk (Kd.R_lower (Kd.R_new' ho19 (Kd.R_lt (by (with_reducible repeat (first | apply Kd.R_alloc | apply Kd.R_drewN | apply Kd.R_drew)); (first | exact HO108.out | exact Kd.R_mono HO108.out (fun _ _ => trivial) | exact Kd.R_mono HO108.out (fun _ hk => hk.1))))) (below_size (by repeat (first | (with_reducible first | exact HB.out | apply below_alloc | apply pw_below_drewN | apply below_drew1) | exact HB.out)))); have n2_ := Aside0.mk (below_step (by repeat (first | (with_reducible first | exact HB.out | apply below_alloc | apply pw_below_drewN | apply below_drew1) | exact HB.out)) hb); clear HO108; clear HB; have HO108 := n0_; have HO111 := n1_; have HB := n2_; clear n0_ n1_ n2_; clear hb ho19; obtain ⟨Ao20, co20, eo20⟩ := Kd.R_slice HO108.out; subst eo20; obtain ⟨Ao21, co21, eo21⟩ := Kd.R_slice HO111.out; subst eo21) | ((with_reducible refine gate_callee (f := 9) rfl ?_); refine goesL_ (some 4) rfl rfl Try.func9 (by kernel_rfl) rfl #[.slice Ao20 t106.length co20, .slice Ao21 y109.length co21] rfl (by (try simp only [List.map_toArray, List.map_cons, List.map_nil]); first | done | rfl | (simp only [List.length_drop, List.length_take]; rfl)) ?_; (with_reducible refine (earshotref04_Same.calls k _ _ t106 _ _ y109 t112 _ ?side1 ?side2 ?side3 ?side4 A2.out).mono ?_); (case side1 => repeat (first | exact (Kd.R_reads' HO108.out).2.2 | (with_reducible refine Kd.C_alloc ?_ _) | (with_reducible refine Kd.C_drewN ?_ _) | (with_reducible refine Kd.C_drew ?_))); (case side2 => exact (Kd.R_reads' HO108.out).2.1); (case side3 => repeat (first | exact (Kd.R_reads' HO111.out).2.2 | (with_reducible refine Kd.C_alloc ?_ _) | (with_reducible refine Kd.C_drewN ?_ _) | (with_reducible refine Kd.C_drew ?_))); (case side4 => exact (Kd.R_reads' HO111.out).2.1); rintro e w' ⟨rfl, ⟨nd, rfl⟩⟩; refine ⟨_, rfl, ?_⟩) | ((with_reducible refine gate_callee (f := 14) rfl ?_); refine goesL_ (some 5) rfl rfl Try.func14 (by kernel_rfl) rfl #[.int .i64 3, .int .i64 2, .int .i64 4, .int .i64 8] rfl (by (try simp only [List.map_toArray, List.map_cons, List.map_nil]); first | done | rfl | (simp only [List.length_drop, List.length_take]; rfl)) ?_; (with_reducible refine (mel_Weight.calls 3 2 4 8 t113 _ A3.out).mono ?_); rintro e w' ⟨rfl, ⟨nd, rfl⟩⟩; refine ⟨_, rfl, ?_⟩))
    go_ret
    exact ⟨by first | rfl | (simp [errW_none, errW_some] <;> rfl) | (simp [*, errW_none, errW_some] <;> rfl), by repeat (first | (with_reducible first | exact HB.out | apply below_alloc | apply pw_below_drewN | apply below_drew1) | exact HB.out)⟩

/-! ### earshotlaw11_MelWeights: function 5 -/
/-- A call's result is a row that reads as xs; the world is as it was, but for what is new. -/
def CRes (w0 W : World) (h : Nat) (xs : List Int) (e : Ending) (w' : World) : Prop :=
  ∃ A c, e = .returned (.slice A h c) ∧ h ≤ c ∧ Aside0 ((Kd.int .i64).C w' A h xs) ∧ Aside0 (Below w0.heap.size w0 w') ∧ Aside0 (Below W.heap.size W w')
theorem cres_of {w0 W w' : World} {h : Nat} {xs : List Int} {v : Value} {t b : Nat} {ok : Nat → Prop} (hB : Below w0.heap.size w0 W) (hR : (Kd.int .i64).R t w' b ok v xs) (hl : xs.length = h) (hb : Below W.heap.size W w') : CRes w0 W h xs (.returned v) w' := by
  subst hl
  obtain ⟨A, c, rfl, h1, h2⟩ := Kd.R_reads hR
  exact ⟨A, c, rfl, h1, ⟨h2⟩, ⟨below_step hB hb⟩, ⟨hb⟩⟩
theorem same_go (l : List Int) (hl : l.length ≤ 100000000) (d : Nat) : ∀ (k i : Nat), i ≤ l.length → l.length - i = d → d < k → earshotref04_Same.l0 k l l (i : Int) = some true := by
  induction d with
  | zero =>
    intro k i h0 hd hk
    obtain ⟨k, rfl⟩ : ∃ m, k = m + 1 := ⟨k - 1, by omega⟩
    simp only [earshotref04_Same.l0]
    rw [if_neg (by omega)]
  | succ d ih =>
    intro k i h0 hd hk
    obtain ⟨k, rfl⟩ : ∃ m, k = m + 1 := ⟨k - 1, by omega⟩
    simp only [earshotref04_Same.l0]
    have hw : wrap64 ((i : Int) + 1) = ((i + 1 : Nat) : Int) := by unfold wrap64; omega
    rw [if_pos (by omega), if_pos (by omega), if_pos (by omega), if_pos trivial, hw]
    exact ih k (i + 1) (by omega) (by omega) (by omega)
theorem same_f (l : List Int) (hl : l.length ≤ 100000000) : earshotref04_Same.f (l.length + 1) l l = some true := by
  unfold earshotref04_Same.f
  rw [if_pos rfl]
  exact same_go l hl l.length _ 0 (by omega) (by omega) (by omega)
/-- Two rows that read the same. -/
theorem same_c {w0 : World} (A1 : Option Addr) (h c1 : Nat) (A2 : Option Addr) (c2 : Nat) (l1 l2 : List Int) (W : World) (hB : Below w0.heap.size w0 W) (hl : l1.length = h) (he : l1 = l2) (hC1 : (Kd.int .i64).C W A1 h l1) (hC2 : (Kd.int .i64).C W A2 h l2) (h1 : h ≤ c1) (h2 : h ≤ c2) (hh : h ≤ 1000000) :
    Calls Try.prog 9 #[.slice A1 h c1, .slice A2 h c2] W fun e w' => e = .returned (.bool true) ∧ Aside0 (Below w0.heap.size w0 w') ∧ Aside0 (Below W.heap.size W w') := by
  subst he
  subst hl
  exact (earshotref04_Same.calls _ A1 c1 l1 A2 c2 l1 true W hC1 h1 hC2 h2 (same_f l1 (by omega))).mono fun e w' ⟨a, ⟨n, b⟩⟩ => by
    subst b
    exact ⟨a, ⟨pw_below_drewN hB n⟩, ⟨pw_below_drewN (Below.refl _ _) n⟩⟩
theorem zeros_c (X : World) (g n : Nat) (hg : g = X.heap.size) (hn : n ≤ 1000000) : (Kd.int .i64).C (X.alloc (.cells (madeCells #[.int .i64 0] n) 3)) (some ⟨g, 0, none⟩) n (List.replicate n 0) := by
  subst hg
  have h := own_made X X.heap.size 3 .i64 n (Nat.le_refl _) (by omega)
  have hR := Kd.R_of_own (enc := Value.int .i64) (h1 := fun _ => rfl) (ok := fun _ => True) (xs := List.replicate n 0) (by rw [List.length_replicate]; exact h) (fun _ _ => trivial)
  obtain ⟨A, c, he, _, h2⟩ := Kd.R_reads hR
  rw [List.length_replicate] at he h2
  injection he with e1 e2 e3
  rw [e1]
  exact h2
/-- A callee that draws only, in a region that is walked once, in a world that has drawn before. -/
theorem quiet_add {P : Program} {f : FuncId} {args : Array Value} {W : World} {K x : Nat} {v : Value} (h : Calls P f args (W.drewN (K + x)) fun e w' => e = .returned v ∧ Drawn0 (W.drewN (K + x)) w') :
    Calls P f args (W.drewN (K + x)) fun e w'' => e = .returned v ∧ ∃ n, w'' = W.drewN (K + n) :=
  h.mono fun _ _ ⟨he, ⟨m, hm⟩⟩ => ⟨he, x + m, by rw [hm, World.drewN_drewN, Nat.add_assoc]⟩
/-- .. likewise, in a world that is named by one count. -/
theorem quiet_d {P : Program} {f : FuncId} {args : Array Value} {W : World} {x : Nat} {v : Value} (h : Calls P f args (W.drewN x) fun e w' => e = .returned v ∧ Drawn0 (W.drewN x) w') :
    Calls P f args (W.drewN x) fun e w'' => e = .returned v ∧ ∃ n, w'' = W.drewN n :=
  h.mono fun _ _ ⟨he, ⟨m, hm⟩⟩ => ⟨he, x + m, by rw [hm, World.drewN_drewN]⟩

theorem i64_mask (i : Nat) (hi : i ≤ 62) (n m : Int) (hm : m = ((2 ^ i - 1 : Nat) : Int)) : Go.bits .and .i64 n m = n % ((2 ^ i : Nat) : Int) := by
  have hp : 0 < 2 ^ i := Nat.two_pow_pos i
  have hle : 2 ^ i ≤ 4611686018427387904 := Nat.pow_le_pow_right (n := 2) (by decide) hi
  have h1 : (BitVec.ofInt 64 m).toNat = 2 ^ i - 1 := by
    subst hm
    rw [BitVec.ofInt_natCast, BitVec.toNat_ofNat]
    exact Nat.mod_eq_of_lt (by omega)
  have key : (BitVec.ofInt 64 n &&& BitVec.ofInt 64 m).toNat = (n % ((2 ^ 64 : Nat) : Int)).toNat % 2 ^ i := by
    rw [BitVec.toNat_and, BitVec.toNat_ofInt, h1, Nat.and_two_pow_sub_one_eq_mod]
  show IntKind.i64.wrap ((BitVec.ofInt 64 n &&& BitVec.ofInt 64 m).toNat : Nat) = n % _
  rw [key, IntKind.wrap_i64]
  have r0 : 0 ≤ n % ((2 ^ 64 : Nat) : Int) := Int.emod_nonneg _ (by decide)
  have e : (((n % ((2 ^ 64 : Nat) : Int)).toNat % 2 ^ i : Nat) : Int) = n % ((2 ^ i : Nat) : Int) := by
    rw [Int.natCast_emod, Int.toNat_of_nonneg r0]
    refine Int.emod_emod_of_dvd _ ?_
    exact Int.natCast_dvd_natCast.2 (Nat.pow_dvd_pow 2 (by omega))
  rw [e]
  generalize hz : n % ((2 ^ i : Nat) : Int) = z
  have m0 : 0 ≤ z := hz ▸ Int.emod_nonneg _ (by omega)
  have m1 : z < ((2 ^ i : Nat) : Int) := hz ▸ Int.emod_lt_of_pos _ (by omega)
  have hle' : ((2 ^ i : Nat) : Int) ≤ 4611686018427387904 := Int.ofNat_le.2 hle
  have m2 : z < 4611686018427387904 := Int.lt_of_lt_of_le m1 hle'
  clear m1 hle' hle hz e key h1
  omega

theorem weight_c (b low mid top r : Int) (W : World) (hr : weightF b low mid top = r) : Calls Try.prog 14 #[.int .i64 b, .int .i64 low, .int .i64 mid, .int .i64 top] W fun e w' => e = .returned (.int .i64 r) ∧ Drawn0 W w' := by
  subst hr
  exact mel_Weight.calls b low mid top _ W rfl
theorem awake_d {w0 : World} (W : World) (hB : Below w0.heap.size w0 W) : Calls Try.prog 8 #[] W fun e w' => e = .returned (.bool true) ∧ Aside0 (Below w0.heap.size w0 w') ∧ Aside0 (Below W.heap.size W w') :=
  (earshotlaw11_awake.calls 30 true W (by decide +kernel)).mono fun e w' ⟨a, b⟩ => ⟨a, ⟨below_step hB b⟩, ⟨b⟩⟩
theorem nearOf {x : Int} (h0 : 0 ≤ x) (h1 : x ≤ 1073741824) : nearB x = true := by simp only [nearB, Bool.and_eq_true, decide_eq_true_eq]; omega
theorem ramp {u d : Int} (h0 : 0 ≤ u) (h1 : u < d) : 0 ≤ 256 * u / d ∧ 256 * u / d ≤ 255 := by
  refine ⟨Int.ediv_nonneg (by omega) (by omega), ?_⟩
  have : 256 * u / d < 256 := (Int.ediv_lt_iff_lt_mul (by omega)).2 (by omega)
  omega
theorem ramps {u d : Int} (h0 : 0 < u) (h1 : u < d) : 256 * (d - u) / d + 256 * u / d = 256 ∨ 256 * (d - u) / d + 256 * u / d = 255 := by
  have e1 := Int.mul_ediv_add_emod (256 * (d - u)) d
  have e2 := Int.mul_ediv_add_emod (256 * u) d
  have r1 := Int.emod_nonneg (256 * (d - u)) (show d ≠ 0 by omega)
  have r2 := Int.emod_nonneg (256 * u) (show d ≠ 0 by omega)
  have s1 := Int.emod_lt_of_pos (256 * (d - u)) (show 0 < d by omega)
  have s2 := Int.emod_lt_of_pos (256 * u) (show 0 < d by omega)
  generalize 256 * (d - u) / d = z at *
  generalize 256 * u / d = s at *
  generalize 256 * (d - u) % d = p at *
  generalize 256 * u % d = q at *
  have e : d * (256 - (z + s)) = p + q := by rw [Int.mul_sub, Int.mul_add]; omega
  obtain ⟨k, hk⟩ : ∃ k, 256 - (z + s) = k := ⟨_, rfl⟩
  rw [hk] at e
  have k0 : ¬ k < 0 := fun h => by have := Int.mul_lt_mul_of_pos_left h (show 0 < d by omega); omega
  have k2 : ¬ 2 ≤ k := fun h => by have := Int.mul_le_mul_of_nonneg_left h (show 0 ≤ d by omega); omega
  omega
theorem weights_cases (x a0 a1 a2 a3 : Int) (x0 : 0 ≤ x) (x1 : x < 1048576) (h0 : 0 ≤ a0) (h1 : a0 ≤ a1) (h2 : a1 ≤ a2) (h3 : a2 ≤ a3) (h4 : a3 ≤ 1048576) : ∃ W V, weightF x a0 a1 a2 = W ∧ weightF x a1 a2 a3 = V ∧
    ((x < a0 ∧ x < a1 ∧ W = 0) ∨ (a0 ≤ x ∧ a2 ≤ x ∧ x = a1 ∧ a2 ≤ a1 ∧ W = 0) ∨ (a0 ≤ x ∧ a2 ≤ x ∧ a1 < x ∧ W = 0) ∨ (a0 ≤ x ∧ x < a1 ∧ x < a2 ∧ 0 ≤ W ∧ W ≤ 255) ∨ (x = a1 ∧ a0 ≤ x ∧ x < a2 ∧ W = 256 ∧ V = 0) ∨ (a1 < x ∧ x < a2 ∧ a0 ≤ x ∧ 0 ≤ W ∧ W ≤ 255 ∧ (W + V = 256 ∨ W + V = 255))) := by
  refine ⟨_, _, rfl, rfl, ?_⟩
  have e1 : weightF x a0 a1 a2 = weightW x a0 a1 a2 := if_pos ⟨nearOf x0 (by omega), nearOf h0 (by omega), nearOf (by omega) (by omega), nearOf (by omega) (by omega)⟩
  have e2 : weightF x a1 a2 a3 = weightW x a1 a2 a3 := if_pos ⟨nearOf x0 (by omega), nearOf (by omega) (by omega), nearOf (by omega) (by omega), nearOf (by omega) (by omega)⟩
  rw [e1, e2]
  unfold weightW
  by_cases c1 : x < a0
  · exact .inl ⟨c1, by omega, by rw [if_neg (by omega), if_neg (by omega)]⟩
  by_cases c2 : a2 ≤ x
  · have e : ¬ (a0 ≤ x ∧ x < a1) ∧ ¬ (a1 ≤ x ∧ x < a2) := by omega
    by_cases c3 : x = a1
    · exact .inr (.inl ⟨by omega, c2, c3, by omega, by rw [if_neg e.1, if_neg e.2]⟩)
    · exact .inr (.inr (.inl ⟨by omega, c2, by omega, by rw [if_neg e.1, if_neg e.2]⟩))
  by_cases c3 : x < a1
  · have := ramp (u := x - a0) (d := a1 - a0) (by omega) (by omega)
    exact .inr (.inr (.inr (.inl ⟨by omega, c3, by omega, by rw [if_pos ⟨by omega, c3⟩]; exact this.1, by rw [if_pos ⟨by omega, c3⟩]; exact this.2⟩)))
  have n1 : ¬ (a0 ≤ x ∧ x < a1) := by omega
  have n2 : a1 ≤ x ∧ x < a2 := by omega
  rw [if_neg n1, if_pos n2, if_pos n2]
  by_cases c4 : x = a1
  · subst c4
    refine .inr (.inr (.inr (.inr (.inl ⟨rfl, by omega, by omega, ?_, ?_⟩))))
    · exact Int.mul_ediv_cancel _ (by omega)
    · rw [Int.sub_self, Int.mul_zero, Int.zero_ediv]
  · have r1 := ramp (u := a2 - x) (d := a2 - a1) (by omega) (by omega)
    have r2 := ramps (u := x - a1) (d := a2 - a1) (by omega) (by omega)
    rw [show a2 - a1 - (x - a1) = a2 - x by omega] at r2
    exact .inr (.inr (.inr (.inr (.inr ⟨by omega, by omega, by omega, r1.1, r1.2, r2⟩))))
def earshotlaw11_MelWeights.f (a0_0 a0_1 a0_2 a0_3 a1 : Int) : Option (Bool) := some true
set_option maxHeartbeats 32000000 in
set_option maxRecDepth 100000 in
theorem weights_go (q0 q1 q2 q3 b : Int) (w : World) :
    Calls Try.prog 5 #[.agg #[.int .i64 q0, .int .i64 q1, .int .i64 q2, .int .i64 q3], .int .i64 b] w fun e w' => e = .returned (.bool true) ∧ Below w.heap.size w w' := by
  have kk : ∀ x : Int, ∃ m : Int, Go.bits .and .i64 x 262143 = m ∧ 0 ≤ m ∧ m ≤ 262143 := fun x => ⟨_, rfl, by rw [i64_mask 18 (by decide) x 262143 rfl]; omega, by rw [i64_mask 18 (by decide) x 262143 rfl]; omega⟩
  obtain ⟨a0, f0, p0, p0'⟩ := kk q0
  obtain ⟨m1, f1, p1, p1'⟩ := kk q1
  obtain ⟨m2, f2, p2, p2'⟩ := kk q2
  obtain ⟨m3, f3, p3, p3'⟩ := kk q3
  obtain ⟨a1, s1⟩ : ∃ a1, a1 = m1 + a0 := ⟨_, rfl⟩
  obtain ⟨a2, s2⟩ : ∃ a2, a2 = m2 + a1 := ⟨_, rfl⟩
  obtain ⟨a3, s3⟩ : ∃ a3, a3 = m3 + a2 := ⟨_, rfl⟩
  obtain ⟨x, fx⟩ : ∃ x, Go.bits .and .i64 b 1048575 = x := ⟨_, rfl⟩
  have hx : 0 ≤ x ∧ x < 1048576 := by rw [← fx, i64_mask 20 (by decide) b 1048575 rfl]; omega
  have t1 : IntKind.i64.wrap (m1 + a0) = a1 := by rw [IntKind.wrap_i64]; omega
  have t2 : IntKind.i64.wrap (m2 + a1) = a2 := by rw [IntKind.wrap_i64]; omega
  have t3 : IntKind.i64.wrap (m3 + a2) = a3 := by rw [IntKind.wrap_i64]; omega
  have HCASE := Aside0.mk (weights_cases x a0 a1 a2 a3 hx.1 hx.2 p0 (by omega) (by omega) (by omega) (by omega))
  obtain ⟨x0, x1⟩ := hx
  have u1 : a1 ≤ 1048576 := by omega
  have u2 : a2 ≤ 1048576 := by omega
  have u3 : a3 ≤ 1048576 := by omega
  have l1 : a0 ≤ a1 := by omega
  have l2 : a1 ≤ a2 := by omega
  have l3 : a2 ≤ a3 := by omega
  clear kk s1 s2 s3
  go_enter Try.func5, Try.ntmps5
  go_wp2_with (first
    | ((with_reducible refine gate_dst (N := 2) rfl ?_); refine box_event ?hg (N := 2) ?hd (cs := #[.int .i64 q0, .int .i64 q1, .int .i64 q2, .int .i64 q3]) (t := 22) ?hr ?_; (case hd => rfl); (case hg => first | rfl | exact wanted_on rfl rfl rfl (by first | assumption | rfl | (simp [*]; done))); (case hr => first | (go_simp; done) | (go_simp; rfl)); intro gb hgb wb hbox hb; subst hgb; have BK := Aside0.mk hbox; have HB := Aside0.mk hb; have ST0 : True := trivial; clear hbox hb)
    | (go_at_call 8; clear ST0; (with_reducible refine (awake_d (w0 := w) _ HB.out).mono ?_); rintro e wk ⟨rfl, HBm, Sm⟩; have BKn := Aside0.mk (blk_below BK.out Sm.out); clear BK; have BK := BKn; clear BKn Sm HB; have HB := HBm; clear HBm))
  have hg6 : w.heap.size ≤ wk.heap.size := HB.out.size
  have hne : w.heap.size ≠ wk.heap.size := by have := blk_lt BK.out; omega
  obtain ⟨g6, hg⟩ : ∃ g6, wk.heap.size = g6 := ⟨_, rfl⟩
  have HE0 : Aside0 ((wk.alloc (.cells #[.int .i64 0, .int .i64 0, .int .i64 0, .int .i64 0] 22)).heap[g6]? = some (.cells #[.int .i64 0, .int .i64 0, .int .i64 0, .int .i64 0] 22 (0, 0))) := ⟨by rw [← hg]; exact heap_alloc_new _ _⟩
  have HQ0 : Aside0 ((wk.alloc (.cells #[.int .i64 0, .int .i64 0, .int .i64 0, .int .i64 0] 22)).heap[w.heap.size]? = some (.cells #[.int .i64 q0, .int .i64 q1, .int .i64 q2, .int .i64 q3] 22 (0, 0))) := ⟨by rw [Below.heap_alloc _ _ _ (blk_lt BK.out)]; exact BK.out⟩
  have HB0 := Aside0.mk (below_alloc HB.out (.cells #[.int .i64 0, .int .i64 0, .int .i64 0, .int .i64 0] 22))
  simp only [hg] at *
  clear hg HB BK
  go_loopw [7] (fun v wr => ∃ n : Nat, n ≤ 4 ∧ v = .int .i64 (n : Int) ∧ Aside0 (wr.heap[g6]? = some (.cells #[.int .i64 (if 0 < n then a0 else 0), .int .i64 (if 1 < n then a1 else 0), .int .i64 (if 2 < n then a2 else 0), .int .i64 (if 3 < n then a3 else 0)] 22 (0, 0))) ∧ Aside0 (wr.heap[w.heap.size]? = some (.cells #[.int .i64 q0, .int .i64 q1, .int .i64 q2, .int .i64 q3] 22 (0, 0))) ∧ Aside0 (Below w.heap.size w wr)) (fun v _ => 4 - (intOf v).toNat)
  case atStart => exact ⟨0, by decide, rfl, HE0, HQ0, HB0⟩
  case round =>
    obtain ⟨n, hn, rfl, HE, HQ, HB⟩ := hrel
    clear HE0 HQ0 HB0
    have hn5 : n = 0 ∨ n = 1 ∨ n = 2 ∨ n = 3 ∨ n = 4 := by omega
    clear hn
    rcases hn5 with rfl | rfl | rfl | rfl | rfl
    all_goals simp only [Nat.lt_irrefl, Nat.not_lt_zero, if_true, if_false, show (0 : Nat) < 1 by decide, show (0 : Nat) < 2 by decide, show (0 : Nat) < 3 by decide, show (0 : Nat) < 4 by decide, show (1 : Nat) < 2 by decide, show (1 : Nat) < 3 by decide, show (1 : Nat) < 4 by decide, show (2 : Nat) < 3 by decide, show (2 : Nat) < 4 by decide, show (3 : Nat) < 4 by decide, show ¬ (2 : Nat) < 1 by decide, show ¬ (3 : Nat) < 1 by decide, show ¬ (3 : Nat) < 2 by decide] at HE
    all_goals simp only [Int.cast_ofNat_Int]
    · have q0c := blk_cell HQ.out 0
      have ec0 := blk_cell HE.out 0
      have ef0 := blk_frozen HE.out 0
      go_wp2
      go_roundw
      case rel => exact ⟨1, by decide, rfl, ⟨(blk_set HE.out 0 _).trans rfl⟩, ⟨(blk_far HQ.out hne _)⟩, ⟨Below.setCell HB.out hg6 _⟩⟩
      case measure => simp [intOf]
    · have q1c := blk_cell HQ.out 1
      have ec1 := blk_cell HE.out 1
      have ef1 := blk_frozen HE.out 1
      have ed1 := blk_cell (blk_set HE.out 1 (.int .i64 m1)) 1
      have ed0 := blk_cell (blk_set HE.out 1 (.int .i64 m1)) 0
      have eg1 := blk_frozen (blk_set HE.out 1 (.int .i64 m1)) 1
      go_wp2
      go_region
      all_goals
        go_wp2
        go_roundw
        case rel => exact ⟨2, by decide, rfl, ⟨(blk_set (blk_set HE.out 1 (.int .i64 m1)) 1 (.int .i64 a1)).trans rfl⟩, ⟨(blk_far (blk_far HQ.out (p := ⟨g6, 1, none⟩) hne (.int .i64 m1)) (p := ⟨g6, 1, none⟩) hne (.int .i64 a1)).trans rfl⟩, ⟨by repeat (first | exact HB.out | refine Below.setCell ?_ hg6 _ | apply below_drew)⟩⟩
        case measure => simp [intOf]
    · have q2c := blk_cell HQ.out 2
      have ec2 := blk_cell HE.out 2
      have ef2 := blk_frozen HE.out 2
      have ed2 := blk_cell (blk_set HE.out 2 (.int .i64 m2)) 2
      have ed1 := blk_cell (blk_set HE.out 2 (.int .i64 m2)) 1
      have eg2 := blk_frozen (blk_set HE.out 2 (.int .i64 m2)) 2
      go_wp2
      go_region
      all_goals
        go_wp2
        go_roundw
        case rel => exact ⟨3, by decide, rfl, ⟨(blk_set (blk_set HE.out 2 (.int .i64 m2)) 2 (.int .i64 a2)).trans rfl⟩, ⟨(blk_far (blk_far HQ.out (p := ⟨g6, 2, none⟩) hne (.int .i64 m2)) (p := ⟨g6, 2, none⟩) hne (.int .i64 a2)).trans rfl⟩, ⟨by repeat (first | exact HB.out | refine Below.setCell ?_ hg6 _ | apply below_drew)⟩⟩
        case measure => simp [intOf]
    · have q3c := blk_cell HQ.out 3
      have ec3 := blk_cell HE.out 3
      have ef3 := blk_frozen HE.out 3
      have ed3 := blk_cell (blk_set HE.out 3 (.int .i64 m3)) 3
      have ed2 := blk_cell (blk_set HE.out 3 (.int .i64 m3)) 2
      have eg3 := blk_frozen (blk_set HE.out 3 (.int .i64 m3)) 3
      go_wp2
      go_region
      all_goals
        go_wp2
        go_roundw
        case rel => exact ⟨4, by decide, rfl, ⟨(blk_set (blk_set HE.out 3 (.int .i64 m3)) 3 (.int .i64 a3)).trans rfl⟩, ⟨(blk_far (blk_far HQ.out (p := ⟨g6, 3, none⟩) hne (.int .i64 m3)) (p := ⟨g6, 3, none⟩) hne (.int .i64 a3)).trans rfl⟩, ⟨by repeat (first | exact HB.out | refine Below.setCell ?_ hg6 _ | apply below_drew)⟩⟩
        case measure => simp [intOf]
    · have ec0 := blk_cell HE.out 0
      have ec1 := blk_cell HE.out 1
      have ec2 := blk_cell HE.out 2
      have ec3 := blk_cell HE.out 3
      obtain ⟨W, V, hW, hV, hc⟩ := HCASE.out
      have HWW := Aside0.mk hW
      have HVV := Aside0.mk hV
      clear hW hV
      rcases hc with ⟨c1, c2, rfl⟩ | ⟨c1, c2, rfl, c4, rfl⟩ | ⟨c1, c2, c3, rfl⟩ | ⟨c1, c2, c3, c4, c5⟩ | ⟨rfl, c2, c3, rfl, rfl⟩ | ⟨c1, c2, c3, c4, c5, c6 | c6⟩
      all_goals
        skip
        go_wp2_with (first
          | (go_at_call 14; (with_reducible refine (weight_c _ _ _ _ _ _ HWW.out).mono ?_); rintro e w' ⟨rfl, ⟨nd, rfl⟩⟩)
          | (go_at_call 14; (with_reducible refine (weight_c _ _ _ _ _ _ HVV.out).mono ?_); rintro e w' ⟨rfl, ⟨nd2, rfl⟩⟩))
        go_ret
        exact ⟨rfl, by repeat (first | exact HB.out | apply pw_below_drewN)⟩
theorem earshotlaw11_MelWeights.calls (a0_0 a0_1 a0_2 a0_3 a1 : Int) (r : Bool) (w : World) (h : earshotlaw11_MelWeights.f a0_0 a0_1 a0_2 a0_3 a1 = some r) :
    Calls Try.prog 5 #[.agg #[.int .i64 a0_0, .int .i64 a0_1, .int .i64 a0_2, .int .i64 a0_3], .int .i64 a1] w fun e w' => e = .returned (.bool r) ∧ Below w.heap.size w w' := by
  obtain rfl := Option.some.inj h
  exact weights_go a0_0 a0_1 a0_2 a0_3 a1 w

/-- THE ONE PURE STATEMENT of earshotlaw11_MelWeights: yours. -/
def earshotlaw11_MelWeights.Pure : Prop := ∀ (a0_0 : Int) (a0_1 : Int) (a0_2 : Int) (a0_3 : Int) (a1 : Int), (Lit.int .i64 a0_0).wf = true → (Lit.int .i64 a0_1).wf = true → (Lit.int .i64 a0_2).wf = true → (Lit.int .i64 a0_3).wf = true → (Lit.int .i64 a1).wf = true → earshotlaw11_MelWeights.f a0_0 a0_1 a0_2 a0_3 a1 = some true
theorem earshotlaw11_MelWeights.walk (P : earshotlaw11_MelWeights.Pure) (a0_0 : Int) (a0_1 : Int) (a0_2 : Int) (a0_3 : Int) (a1 : Int) (w : World) (w0_0 : (Lit.int .i64 a0_0).wf = true) (w0_1 : (Lit.int .i64 a0_1).wf = true) (w0_2 : (Lit.int .i64 a0_2).wf = true) (w0_3 : (Lit.int .i64 a0_3).wf = true) (w1 : (Lit.int .i64 a1).wf = true) :
    Calls Try.prog 5 #[.agg #[.int .i64 a0_0, .int .i64 a0_1, .int .i64 a0_2, .int .i64 a0_3], .int .i64 a1] w fun e w' => e = .returned (.bool true) ∧ Below w.heap.size w w' := by
  have h := P a0_0 a0_1 a0_2 a0_3 a1 w0_0 w0_1 w0_2 w0_3 w1
  refine (earshotlaw11_MelWeights.calls a0_0 a0_1 a0_2 a0_3 a1 true w h).mono ?_
  rintro e w' ⟨rfl, hd⟩
  exact ⟨rfl, hd⟩

end Go.Proofs.Ytohmecfjpmapnaa.PMelWeights
