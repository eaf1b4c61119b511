-- Written by a program of this work (wip/tools) for this claim; Lean checks it.
import Derived.Test.YtohmecfjpmapnaaPMelTellsx0
import Derived.Test.YtohmecfjpmapnaaPMelTellsx1
namespace Go.Proofs.Ytohmecfjpmapnaa.PMelTells
open Go.RowKit Go.Proofs.YtohmecfjpmapnaaW.PrintWords Go.Proofs.YtohmecfjpmapnaaW.PrintLast Go.Proofs.YtohmecfjpmapnaaW.PrintMore
attribute [local go_sem] max2_int min2_int max_two min_two max_three min_three max_four min_four   -- for this text's walks alone
set_option linter.unusedVariables false
set_option linter.unusedSimpArgs false

/-! ### mel_Weight: function 14 -/
def nearB (x : Int) : Bool := decide (-1073741824 ≤ x) && decide (x ≤ 1073741824)
def weightW (b low mid top : Int) : Int := if low ≤ b ∧ b < mid then 256 * (b - low) / (mid - low) else if mid ≤ b ∧ b < top then 256 * (top - b) / (top - mid) else 0
def weightF (b low mid top : Int) : Int := if nearB b = true ∧ nearB low = true ∧ nearB mid = true ∧ nearB top = true then weightW b low mid top else 0
def mel_Weight.f (a0 a1 a2 a3 : Int) : Option (Int) := some (weightF a0 a1 a2 a3)
theorem near_yes {x : Int} (h : nearB x = true) : -1073741824 ≤ x ∧ x ≤ 1073741824 := by simpa [nearB] using h
theorem near_no {x : Int} (h : ¬ nearB x = true) : decide (x < -1073741824) = true ∨ decide (x < -1073741824) = false ∧ decide (1073741824 < x) = true := by
  simp only [nearB, Bool.and_eq_true, decide_eq_true_eq, Classical.not_and_iff_not_or_not] at h
  simp only [decide_eq_true_eq, decide_eq_false_iff_not]
  omega
theorem near_dec {x : Int} (h : nearB x = true) : decide (x < -1073741824) = false ∧ decide (1073741824 < x) = false := by
  have := near_yes h
  simp only [decide_eq_false_iff_not]
  omega
set_option maxHeartbeats 16000000 in
theorem weight_near (b low mid top : Int) (w : World) (h0 : nearB b = true) (h1 : nearB low = true) (h2 : nearB mid = true) (h3 : nearB top = true) :
    Calls Try.prog 14 #[.int .i64 b, .int .i64 low, .int .i64 mid, .int .i64 top] w fun e w' => e = .returned (.int .i64 (weightW b low mid top)) ∧ w = w' := by
  have r0 := near_yes h0
  have r1 := near_yes h1
  have r2 := near_yes h2
  have r3 := near_yes h3
  obtain ⟨d0, e0⟩ := near_dec h0
  obtain ⟨d1, e1⟩ := near_dec h1
  obtain ⟨d2, e2⟩ := near_dec h2
  obtain ⟨d3, e3⟩ := near_dec h3
  have hcase : (low ≤ b ∧ b < mid ∧ weightW b low mid top = 256 * (b - low) / (mid - low)) ∨ (¬ (low ≤ b ∧ b < mid) ∧ mid ≤ b ∧ b < top ∧ weightW b low mid top = 256 * (top - b) / (top - mid)) ∨ (¬ (low ≤ b ∧ b < mid) ∧ ¬ (mid ≤ b ∧ b < top) ∧ weightW b low mid top = 0) := by
    unfold weightW
    by_cases c1 : low ≤ b ∧ b < mid
    · exact .inl ⟨c1.1, c1.2, if_pos c1⟩
    · by_cases c2 : mid ≤ b ∧ b < top
      · exact .inr (.inl ⟨c1, c2.1, c2.2, by rw [if_neg c1, if_pos c2]⟩)
      · exact .inr (.inr ⟨c1, c2, by rw [if_neg c1, if_neg c2]⟩)
  have x0 : ∀ w : World, (Instr.index 22 (.agg #[.int .i64 b, .int .i64 low, .int .i64 mid, .int .i64 top]) (.int .i64 0)).run Try.prog w = .ok (.int .i64 b) w := fun _ => by kernel_rfl
  have x1 : ∀ w : World, (Instr.index 22 (.agg #[.int .i64 b, .int .i64 low, .int .i64 mid, .int .i64 top]) (.int .i64 1)).run Try.prog w = .ok (.int .i64 low) w := fun _ => by kernel_rfl
  have x2 : ∀ w : World, (Instr.index 22 (.agg #[.int .i64 b, .int .i64 low, .int .i64 mid, .int .i64 top]) (.int .i64 2)).run Try.prog w = .ok (.int .i64 mid) w := fun _ => by kernel_rfl
  have x3 : ∀ w : World, (Instr.index 22 (.agg #[.int .i64 b, .int .i64 low, .int .i64 mid, .int .i64 top]) (.int .i64 3)).run Try.prog w = .ok (.int .i64 top) w := fun _ => by kernel_rfl
  clear h0 h1 h2 h3
  rcases hcase with ⟨c1, c2, hv⟩ | ⟨c0, c1, c2, hv⟩ | ⟨c0, c1, hv⟩
  · have HV := Aside0.mk hv
    have p1 : decide (low ≤ b) = true := decide_eq_true c1
    have p2 : decide (b < mid) = true := decide_eq_true c2
    have p3 : (mid - low == 0) = false := by simp; omega
    clear hv
    go_enter Try.func14, Try.ntmps14
    go_wp2
    go_loop [16] (fun v => ∃ n : Int, (n = 0 ∨ n = 1 ∨ n = 2 ∨ n = 3 ∨ n = 4) ∧ v = .int .i64 n) (fun v => 4 - (intOf v).toNat)
    case atStart => exact ⟨0, .inl rfl, rfl⟩
    case round =>
      obtain ⟨n, hn, rfl⟩ := hrel
      rcases hn with rfl | rfl | rfl | rfl | rfl
      · go_wp2
        go_round
        case rel => exact ⟨1, .inr (.inl rfl), rfl⟩
        case measure => simp [intOf]
      · go_wp2
        go_round
        case rel => exact ⟨2, .inr (.inr (.inl rfl)), rfl⟩
        case measure => simp [intOf]
      · go_wp2
        go_round
        case rel => exact ⟨3, .inr (.inr (.inr (.inl rfl))), rfl⟩
        case measure => simp [intOf]
      · go_wp2
        go_round
        case rel => exact ⟨4, .inr (.inr (.inr (.inr rfl))), rfl⟩
        case measure => simp [intOf]
      · go_wp2
        go_ret
        exact ⟨by rw [HV.out]; rfl, rfl⟩
  · have HV := Aside0.mk hv
    have p0 : decide (low ≤ b) = true ∧ decide (b < mid) = false ∨ decide (low ≤ b) = false := by
      simp only [decide_eq_true_eq, decide_eq_false_iff_not]; omega
    have p1 : decide (mid ≤ b) = true := decide_eq_true c1
    have p2 : decide (b < top) = true := decide_eq_true c2
    have p3 : (top - mid == 0) = false := by simp; omega
    clear hv c0
    rcases p0 with ⟨p5, p6⟩ | p5
    · go_enter Try.func14, Try.ntmps14
      go_wp2
      go_loop [16] (fun v => ∃ n : Int, (n = 0 ∨ n = 1 ∨ n = 2 ∨ n = 3 ∨ n = 4) ∧ v = .int .i64 n) (fun v => 4 - (intOf v).toNat)
      case atStart => exact ⟨0, .inl rfl, rfl⟩
      case round =>
        obtain ⟨n, hn, rfl⟩ := hrel
        rcases hn with rfl | rfl | rfl | rfl | rfl
        · go_wp2
          go_round
          case rel => exact ⟨1, .inr (.inl rfl), rfl⟩
          case measure => simp [intOf]
        · go_wp2
          go_round
          case rel => exact ⟨2, .inr (.inr (.inl rfl)), rfl⟩
          case measure => simp [intOf]
        · go_wp2
          go_round
          case rel => exact ⟨3, .inr (.inr (.inr (.inl rfl))), rfl⟩
          case measure => simp [intOf]
        · go_wp2
          go_round
          case rel => exact ⟨4, .inr (.inr (.inr (.inr rfl))), rfl⟩
          case measure => simp [intOf]
        · go_wp2
          go_ret
          exact ⟨by rw [HV.out]; rfl, rfl⟩
    · go_enter Try.func14, Try.ntmps14
      go_wp2
      go_loop [16] (fun v => ∃ n : Int, (n = 0 ∨ n = 1 ∨ n = 2 ∨ n = 3 ∨ n = 4) ∧ v = .int .i64 n) (fun v => 4 - (intOf v).toNat)
      case atStart => exact ⟨0, .inl rfl, rfl⟩
      case round =>
        obtain ⟨n, hn, rfl⟩ := hrel
        rcases hn with rfl | rfl | rfl | rfl | rfl
        · go_wp2
          go_round
          case rel => exact ⟨1, .inr (.inl rfl), rfl⟩
          case measure => simp [intOf]
        · go_wp2
          go_round
          case rel => exact ⟨2, .inr (.inr (.inl rfl)), rfl⟩
          case measure => simp [intOf]
        · go_wp2
          go_round
          case rel => exact ⟨3, .inr (.inr (.inr (.inl rfl))), rfl⟩
          case measure => simp [intOf]
        · go_wp2
          go_round
          case rel => exact ⟨4, .inr (.inr (.inr (.inr rfl))), rfl⟩
          case measure => simp [intOf]
        · go_wp2
          go_ret
          exact ⟨by rw [HV.out]; rfl, rfl⟩
  · have HV := Aside0.mk hv
    have p0 : decide (low ≤ b) = true ∧ decide (b < mid) = false ∨ decide (low ≤ b) = false := by
      simp only [decide_eq_true_eq, decide_eq_false_iff_not]; omega
    have p1 : decide (mid ≤ b) = true ∧ decide (b < top) = false ∨ decide (mid ≤ b) = false := by
      simp only [decide_eq_true_eq, decide_eq_false_iff_not]; omega
    clear hv c0 c1
    rcases p0 with ⟨p5, p6⟩ | p5 <;> rcases p1 with ⟨p7, p8⟩ | p7
    · go_enter Try.func14, Try.ntmps14
      go_wp2
      go_loop [16] (fun v => ∃ n : Int, (n = 0 ∨ n = 1 ∨ n = 2 ∨ n = 3 ∨ n = 4) ∧ v = .int .i64 n) (fun v => 4 - (intOf v).toNat)
      case atStart => exact ⟨0, .inl rfl, rfl⟩
      case round =>
        obtain ⟨n, hn, rfl⟩ := hrel
        rcases hn with rfl | rfl | rfl | rfl | rfl
        · go_wp2
          go_round
          case rel => exact ⟨1, .inr (.inl rfl), rfl⟩
          case measure => simp [intOf]
        · go_wp2
          go_round
          case rel => exact ⟨2, .inr (.inr (.inl rfl)), rfl⟩
          case measure => simp [intOf]
        · go_wp2
          go_round
          case rel => exact ⟨3, .inr (.inr (.inr (.inl rfl))), rfl⟩
          case measure => simp [intOf]
        · go_wp2
          go_round
          case rel => exact ⟨4, .inr (.inr (.inr (.inr rfl))), rfl⟩
          case measure => simp [intOf]
        · go_wp2
          go_ret
          exact ⟨by rw [HV.out]; rfl, rfl⟩
    · go_enter Try.func14, Try.ntmps14
      go_wp2
      go_loop [16] (fun v => ∃ n : Int, (n = 0 ∨ n = 1 ∨ n = 2 ∨ n = 3 ∨ n = 4) ∧ v = .int .i64 n) (fun v => 4 - (intOf v).toNat)
      case atStart => exact ⟨0, .inl rfl, rfl⟩
      case round =>
        obtain ⟨n, hn, rfl⟩ := hrel
        rcases hn with rfl | rfl | rfl | rfl | rfl
        · go_wp2
          go_round
          case rel => exact ⟨1, .inr (.inl rfl), rfl⟩
          case measure => simp [intOf]
        · go_wp2
          go_round
          case rel => exact ⟨2, .inr (.inr (.inl rfl)), rfl⟩
          case measure => simp [intOf]
        · go_wp2
          go_round
          case rel => exact ⟨3, .inr (.inr (.inr (.inl rfl))), rfl⟩
          case measure => simp [intOf]
        · go_wp2
          go_round
          case rel => exact ⟨4, .inr (.inr (.inr (.inr rfl))), rfl⟩
          case measure => simp [intOf]
        · go_wp2
          go_ret
          exact ⟨by rw [HV.out]; rfl, rfl⟩
    · go_enter Try.func14, Try.ntmps14
      go_wp2
      go_loop [16] (fun v => ∃ n : Int, (n = 0 ∨ n = 1 ∨ n = 2 ∨ n = 3 ∨ n = 4) ∧ v = .int .i64 n) (fun v => 4 - (intOf v).toNat)
      case atStart => exact ⟨0, .inl rfl, rfl⟩
      case round =>
        obtain ⟨n, hn, rfl⟩ := hrel
        rcases hn with rfl | rfl | rfl | rfl | rfl
        · go_wp2
          go_round
          case rel => exact ⟨1, .inr (.inl rfl), rfl⟩
          case measure => simp [intOf]
        · go_wp2
          go_round
          case rel => exact ⟨2, .inr (.inr (.inl rfl)), rfl⟩
          case measure => simp [intOf]
        · go_wp2
          go_round
          case rel => exact ⟨3, .inr (.inr (.inr (.inl rfl))), rfl⟩
          case measure => simp [intOf]
        · go_wp2
          go_round
          case rel => exact ⟨4, .inr (.inr (.inr (.inr rfl))), rfl⟩
          case measure => simp [intOf]
        · go_wp2
          go_ret
          exact ⟨by rw [HV.out]; rfl, rfl⟩
    · go_enter Try.func14, Try.ntmps14
      go_wp2
      go_loop [16] (fun v => ∃ n : Int, (n = 0 ∨ n = 1 ∨ n = 2 ∨ n = 3 ∨ n = 4) ∧ v = .int .i64 n) (fun v => 4 - (intOf v).toNat)
      case atStart => exact ⟨0, .inl rfl, rfl⟩
      case round =>
        obtain ⟨n, hn, rfl⟩ := hrel
        rcases hn with rfl | rfl | rfl | rfl | rfl
        · go_wp2
          go_round
          case rel => exact ⟨1, .inr (.inl rfl), rfl⟩
          case measure => simp [intOf]
        · go_wp2
          go_round
          case rel => exact ⟨2, .inr (.inr (.inl rfl)), rfl⟩
          case measure => simp [intOf]
        · go_wp2
          go_round
          case rel => exact ⟨3, .inr (.inr (.inr (.inl rfl))), rfl⟩
          case measure => simp [intOf]
        · go_wp2
          go_round
          case rel => exact ⟨4, .inr (.inr (.inr (.inr rfl))), rfl⟩
          case measure => simp [intOf]
        · go_wp2
          go_ret
          exact ⟨by rw [HV.out]; rfl, rfl⟩
set_option maxHeartbeats 16000000 in
theorem weight_far (b low mid top : Int) (w : World) (K : Nat) (x : Int) (hK : K < 4) (hx : x = [b, low, mid, top].getD K 0) (hfar : ¬ nearB x = true) (hnear : ∀ j, j < K → nearB ([b, low, mid, top].getD j 0) = true) :
    Calls Try.prog 14 #[.int .i64 b, .int .i64 low, .int .i64 mid, .int .i64 top] w fun e w' => e = .returned (.int .i64 0) ∧ w = w' := by
  have x0 : ∀ w : World, (Instr.index 22 (.agg #[.int .i64 b, .int .i64 low, .int .i64 mid, .int .i64 top]) (.int .i64 0)).run Try.prog w = .ok (.int .i64 b) w := fun _ => by kernel_rfl
  have x1 : ∀ w : World, (Instr.index 22 (.agg #[.int .i64 b, .int .i64 low, .int .i64 mid, .int .i64 top]) (.int .i64 1)).run Try.prog w = .ok (.int .i64 low) w := fun _ => by kernel_rfl
  have x2 : ∀ w : World, (Instr.index 22 (.agg #[.int .i64 b, .int .i64 low, .int .i64 mid, .int .i64 top]) (.int .i64 2)).run Try.prog w = .ok (.int .i64 mid) w := fun _ => by kernel_rfl
  have x3 : ∀ w : World, (Instr.index 22 (.agg #[.int .i64 b, .int .i64 low, .int .i64 mid, .int .i64 top]) (.int .i64 3)).run Try.prog w = .ok (.int .i64 top) w := fun _ => by kernel_rfl
  have hf := near_no hfar
  have hK4 : K = 0 ∨ K = 1 ∨ K = 2 ∨ K = 3 := by omega
  rcases hK4 with rfl | rfl | rfl | rfl
  · have hx' : x = b := hx
    subst hx'
    clear hx hfar hnear hK
    rcases hf with f1 | ⟨f1, f2⟩
    all_goals
      go_enter Try.func14, Try.ntmps14
      go_wp2
      go_loop [16] (fun v => ∃ n : Int, (n = 0) ∧ v = .int .i64 n) (fun v => 4 - (intOf v).toNat)
      case atStart => exact ⟨0, rfl, rfl⟩
      case round =>
        obtain ⟨n, hn, rfl⟩ := hrel
        rcases hn with rfl
        · go_wp2
          go_ret
          exact ⟨rfl, rfl⟩
  · have hx' : x = low := hx
    subst hx'
    obtain ⟨d0, e0⟩ := near_dec (hnear 0 (by decide))
    have d0' : decide (b < -1073741824) = false := d0
    have e0' : decide (1073741824 < b) = false := e0
    clear hx hfar hnear hK d0 e0
    rcases hf with f1 | ⟨f1, f2⟩
    all_goals
      go_enter Try.func14, Try.ntmps14
      go_wp2
      go_loop [16] (fun v => ∃ n : Int, (n = 0 ∨ n = 1) ∧ v = .int .i64 n) (fun v => 4 - (intOf v).toNat)
      case atStart => exact ⟨0, .inl rfl, rfl⟩
      case round =>
        obtain ⟨n, hn, rfl⟩ := hrel
        rcases hn with rfl | rfl
        · go_wp2
          go_round
          case rel => exact ⟨1, .inr (rfl), rfl⟩
          case measure => simp [intOf]
        · go_wp2
          go_ret
          exact ⟨rfl, rfl⟩
  · have hx' : x = mid := hx
    subst hx'
    obtain ⟨d0, e0⟩ := near_dec (hnear 0 (by decide))
    have d0' : decide (b < -1073741824) = false := d0
    have e0' : decide (1073741824 < b) = false := e0
    obtain ⟨d1, e1⟩ := near_dec (hnear 1 (by decide))
    have d1' : decide (low < -1073741824) = false := d1
    have e1' : decide (1073741824 < low) = false := e1
    clear hx hfar hnear hK d0 e0 d1 e1
    rcases hf with f1 | ⟨f1, f2⟩
    all_goals
      go_enter Try.func14, Try.ntmps14
      go_wp2
      go_loop [16] (fun v => ∃ n : Int, (n = 0 ∨ n = 1 ∨ n = 2) ∧ v = .int .i64 n) (fun v => 4 - (intOf v).toNat)
      case atStart => exact ⟨0, .inl rfl, rfl⟩
      case round =>
        obtain ⟨n, hn, rfl⟩ := hrel
        rcases hn with rfl | rfl | rfl
        · go_wp2
          go_round
          case rel => exact ⟨1, .inr (.inl rfl), rfl⟩
          case measure => simp [intOf]
        · go_wp2
          go_round
          case rel => exact ⟨2, .inr (.inr (rfl)), rfl⟩
          case measure => simp [intOf]
        · go_wp2
          go_ret
          exact ⟨rfl, rfl⟩
  · have hx' : x = top := hx
    subst hx'
    obtain ⟨d0, e0⟩ := near_dec (hnear 0 (by decide))
    have d0' : decide (b < -1073741824) = false := d0
    have e0' : decide (1073741824 < b) = false := e0
    obtain ⟨d1, e1⟩ := near_dec (hnear 1 (by decide))
    have d1' : decide (low < -1073741824) = false := d1
    have e1' : decide (1073741824 < low) = false := e1
    obtain ⟨d2, e2⟩ := near_dec (hnear 2 (by decide))
    have d2' : decide (mid < -1073741824) = false := d2
    have e2' : decide (1073741824 < mid) = false := e2
    clear hx hfar hnear hK d0 e0 d1 e1 d2 e2
    rcases hf with f1 | ⟨f1, f2⟩
    all_goals
      go_enter Try.func14, Try.ntmps14
      go_wp2
      go_loop [16] (fun v => ∃ n : Int, (n = 0 ∨ n = 1 ∨ n = 2 ∨ n = 3) ∧ v = .int .i64 n) (fun v => 4 - (intOf v).toNat)
      case atStart => exact ⟨0, .inl rfl, rfl⟩
      case round =>
        obtain ⟨n, hn, rfl⟩ := hrel
        rcases hn with rfl | rfl | rfl | rfl
        · go_wp2
          go_round
          case rel => exact ⟨1, .inr (.inl rfl), rfl⟩
          case measure => simp [intOf]
        · go_wp2
          go_round
          case rel => exact ⟨2, .inr (.inr (.inl rfl)), rfl⟩
          case measure => simp [intOf]
        · go_wp2
          go_round
          case rel => exact ⟨3, .inr (.inr (.inr (rfl))), rfl⟩
          case measure => simp [intOf]
        · go_wp2
          go_ret
          exact ⟨rfl, rfl⟩
theorem mel_Weight.calls (a0 a1 a2 a3 : Int) (r : Int) (w : World) (h : mel_Weight.f a0 a1 a2 a3 = some r) :
    Calls Try.prog 14 #[.int .i64 a0, .int .i64 a1, .int .i64 a2, .int .i64 a3] w fun e w' => e = .returned (.int .i64 r) ∧ Drawn0 w w' := by
  obtain rfl := Option.some.inj h
  have key : Calls Try.prog 14 #[.int .i64 a0, .int .i64 a1, .int .i64 a2, .int .i64 a3] w fun e w' => e = .returned (.int .i64 (weightF a0 a1 a2 a3)) ∧ w = w' := by
    unfold weightF
    by_cases h0 : nearB a0 = true
    · by_cases h1 : nearB a1 = true
      · by_cases h2 : nearB a2 = true
        · by_cases h3 : nearB a3 = true
          · rw [if_pos ⟨h0, h1, h2, h3⟩]; exact weight_near a0 a1 a2 a3 w h0 h1 h2 h3
          · rw [if_neg (fun h => h3 h.2.2.2)]; exact weight_far a0 a1 a2 a3 w 3 a3 (by decide) rfl h3 (fun j hj => by match j, hj with | 0, _ => exact h0 | 1, _ => exact h1 | 2, _ => exact h2)
        · rw [if_neg (fun h => h2 h.2.2.1)]; exact weight_far a0 a1 a2 a3 w 2 a2 (by decide) rfl h2 (fun j hj => by match j, hj with | 0, _ => exact h0 | 1, _ => exact h1)
      · rw [if_neg (fun h => h1 h.2.1)]; exact weight_far a0 a1 a2 a3 w 1 a1 (by decide) rfl h1 (fun j hj => by match j, hj with | 0, _ => exact h0)
    · rw [if_neg (fun h => h0 h.1)]; exact weight_far a0 a1 a2 a3 w 0 a0 (by decide) rfl h0 (fun j hj => by omega)
  exact key.mono fun e w' ⟨a, b⟩ => by
    subst b
    exact ⟨a, ⟨0, rfl⟩⟩

/-! ### earshotlaw11_awake: function 8 -/
def earshotlaw11_awake.f (k : Nat)  : Option (Bool) := (mel_Edges.f 9 1).bind fun t106 => ((earshotref04_Same.f k t106 (([0, 4, 8] : List Int))).bind fun t112 => ((mel_Weight.f 3 2 4 8).bind fun t113 => (if t113 = 128 then ((mel_Weight.f 5 2 4 8).bind fun t114 => (if t114 = 192 then (some t112) else (some false))) else (some false))))
theorem earshotlaw11_awake.mono : ∀ k, LeO (earshotlaw11_awake.f k ) (earshotlaw11_awake.f (k + 1) ) := by
  intro  k
  unfold earshotlaw11_awake.f
  repeat' first
      | (with_reducible exact earshotref04_Same.mono _ _ _)
      | (with_reducible exact LeO.refl _)
      | (with_reducible exact LeO.none _)
      | (with_reducible refine LeO.ite ?_ ?_)
      | (with_reducible refine LeO.bind ?_ (fun _ => ?_))
      | exact earshotref04_Same.mono _ _ _
      | exact LeO.none _
      | refine LeO.ite ?_ ?_
      | refine LeO.bind ?_ (fun _ => ?_)
set_option maxHeartbeats 8000000 in
set_option maxRecDepth 100000 in
theorem earshotlaw11_awake.calls (k : Nat)  (r : Bool) (w : World) (h : earshotlaw11_awake.f k  = some r) :
    Calls Try.prog 8 #[] w fun e w' => e = .returned (.bool r) ∧ Below w.heap.size w w' := by
  have HB := Aside0.mk (Below.refl w.heap.size w)
  have H : ((mel_Edges.f 9 1).bind fun t106 => ((earshotref04_Same.f k t106 (([0, 4, 8] : List Int))).bind fun t112 => ((mel_Weight.f 3 2 4 8).bind fun t113 => (if t113 = 128 then ((mel_Weight.f 5 2 4 8).bind fun t114 => (if t114 = 192 then (some t112) else (some false))) else (some false))))) = some r := h
  clear h
  replace H := Option.bind_eq_some_iff.mp H
  obtain ⟨t106, A10, H⟩ := H
  replace H : ((earshotref04_Same.f k t106 (([0, 4, 8] : List Int))).bind fun t112 => ((mel_Weight.f 3 2 4 8).bind fun t113 => (if t113 = 128 then ((mel_Weight.f 5 2 4 8).bind fun t114 => (if t114 = 192 then (some t112) else (some false))) else (some false)))) = some r := H
  have A1 := Aside0.mk A10
  clear A10
  obtain ⟨y109, hy109⟩ : ∃ y_ : List Int, y_ = (([0, 4, 8] : List Int)) := ⟨_, rfl⟩
  replace H : ((earshotref04_Same.f k t106 y109).bind fun t112 => ((mel_Weight.f 3 2 4 8).bind fun t113 => (if t113 = 128 then ((mel_Weight.f 5 2 4 8).bind fun t114 => (if t114 = 192 then (some t112) else (some false))) else (some false)))) = some r := by first | (rw [hy109]; with_reducible exact H) | (have H2_ := (Option.bind_some _ _).symm.trans H; rw [hy109]; with_reducible exact H2_) | (have H2_ := (Option.bind_some _ _).symm.trans H; with_reducible exact H2_) | with_reducible exact H | (rw [hy109]; exact H) | exact H
  have Ny109 := Aside0.mk hy109
  clear hy109
  replace H := Option.bind_eq_some_iff.mp H
  obtain ⟨t112, A20, H⟩ := H
  replace H : ((mel_Weight.f 3 2 4 8).bind fun t113 => (if t113 = 128 then ((mel_Weight.f 5 2 4 8).bind fun t114 => (if t114 = 192 then (some t112) else (some false))) else (some false))) = some r := H
  have A2 := Aside0.mk A20
  clear A20
  replace H := Option.bind_eq_some_iff.mp H
  obtain ⟨t113, A30, H⟩ := H
  replace H : (if t113 = 128 then ((mel_Weight.f 5 2 4 8).bind fun t114 => (if t114 = 192 then (some t112) else (some false))) else (some false)) = some r := H
  have A3 := Aside0.mk A30
  clear A30
  by_cases c4 : t113 = 128
  · rw [if_pos c4] at H
    have c4b0 : (t113 == 128) = true := beq_iff_eq.mpr c4
    have c4b1 : (t113 != 128) = false := bne_eq_false_iff_eq.mpr c4
    clear c4
    replace H := Option.bind_eq_some_iff.mp H
    obtain ⟨t114, A50, H⟩ := H
    replace H : (if t114 = 192 then (some t112) else (some false)) = some r := H
    have A5 := Aside0.mk A50
    clear A50
    by_cases c6 : t114 = 192
    · rw [if_pos c6] at H
      have c6b0 : (t114 == 192) = true := beq_iff_eq.mpr c6
      have c6b1 : (t114 != 192) = false := bne_eq_false_iff_eq.mpr c6
      clear c6
      obtain rfl := Option.some.inj H
      go_enter Try.func8, Try.ntmps8
      go_wp2_with (first | ((with_reducible refine gate_callee (f := 10) rfl ?_); refine goesL_ (some 2) rfl rfl Try.func10 (by kernel_rfl) rfl #[.int .i64 9, .int .i64 1] rfl (by (try simp only [List.map_toArray, List.map_cons, List.map_nil]); first | done | rfl | (simp only [List.length_drop, List.length_take]; rfl)) ?_; (with_reducible refine (mel_Edges.calls 9 1 t106 _ A1.out).mono ?_); rintro e w7 ⟨v107, rfl, ho0, hb⟩; refine ⟨_, rfl, ?_⟩; have n0_ := Aside0.mk (Kd.R_lower ho0 (below_size (by repeat (first | (with_reducible first | exact HB.out | apply below_alloc | apply pw_below_drewN | apply below_drew1) | exact HB.out)))); have n1_ := Aside0.mk (below_step (by repeat (first | (with_reducible first | exact HB.out | apply below_alloc | apply pw_below_drewN | apply below_drew1) | exact HB.out)) hb); clear HB; have HO108 := n0_; have HB := n1_; clear n0_ n1_; (try clear hb); (try clear hb2); (try clear hk); (try clear hi); (try clear ho0)) | ((with_reducible refine gate_dst (N := 3) rfl ?_); refine Kd.R_lit (Kd.int .i64) _ 3 ?hg (N := 3) ?hd (xs := ([0, 4, 8] : List Int)) (inner := [.int .i64 0, .int .i64 4, .int .i64 8]) (ok := fun _ => True) (okp := fun _ => True) ?hr ?hp (fun _ hk => hk) trivial (Below.refl _ _) (Nat.le_refl _) (by simp) ?_; (case hd => rfl); (case hg => first | rfl | exact wanted_on rfl rfl rfl (by first | assumption | rfl | (simp [*]; done))); (case hr => first | (go_simp; done) | (go_simp; rfl)); (case hp => exact (Reps.one (show Kd.M (Kd.int .i64) _ _ _ 0 [.int .i64 0] from rfl) (Reps.one (show Kd.M (Kd.int .i64) _ _ _ 4 [.int .i64 4] from rfl) (Reps.one (show Kd.M (Kd.int .i64) _ _ _ 8 [.int .i64 8] from rfl) (Reps.none _ _))))); intro v110 w8 ho9 hb hg_ hnew_; clear hg_ hnew_; (first | rw [← Ny109.out] at ho9 | (simp only [Int.reduceToNat] at ho9; rw [← Ny109.out] at ho9)); have n0_ := Aside0.mk (Kd.R_elder' (by (with_reducible repeat (first | apply Kd.R_alloc | apply Kd.R_drewN | apply Kd.R_drew)); (first | exact HO108.out | exact Kd.R_mono HO108.out (fun _ _ => trivial) | exact Kd.R_mono HO108.out (fun _ hk => hk.1))) (Kd.R_base ho9) hb); have n1_ := Aside0.mk (Kd.R_lower (Kd.R_new' ho9 (Kd.R_lt (by (with_reducible repeat (first | apply Kd.R_alloc | apply Kd.R_drewN | apply Kd.R_drew)); (first | exact HO108.out | exact Kd.R_mono HO108.out (fun _ _ => trivial) | exact Kd.R_mono HO108.out (fun _ hk => hk.1))))) (below_size (by repeat (first | (with_reducible first | exact HB.out | apply below_alloc | apply pw_below_drewN | apply below_drew1) | exact HB.out)))); have n2_ := Aside0.mk (below_step (by repeat (first | (with_reducible first | exact HB.out | apply below_alloc | apply pw_below_drewN | apply below_drew1) | exact HB.out)) hb); clear HO108; clear HB; have HO108 := n0_; have HO111 := n1_; have HB := n2_; clear n0_ n1_ n2_; clear hb ho9; obtain ⟨Ao10, co10, eo10⟩ := Kd.R_slice HO108.out; subst eo10; obtain ⟨Ao11, co11, eo11⟩ := Kd.R_slice HO111.out; subst eo11) | ((with_reducible refine gate_callee (f := 9) rfl ?_); refine goesL_ (some 4) rfl rfl Try.func9 (by kernel_rfl) rfl #[.slice Ao10 t106.length co10, .slice Ao11 y109.length co11] rfl (by (try simp only [List.map_toArray, List.map_cons, List.map_nil]); first | done | rfl | (simp only [List.length_drop, List.length_take]; rfl)) ?_; (with_reducible refine (earshotref04_Same.calls k _ _ t106 _ _ y109 t112 _ ?side1 ?side2 ?side3 ?side4 A2.out).mono ?_); (case side1 => repeat (first | exact (Kd.R_reads' HO108.out).2.2 | (with_reducible refine Kd.C_alloc ?_ _) | (with_reducible refine Kd.C_drewN ?_ _) | (with_reducible refine Kd.C_drew ?_))); (case side2 => exact (Kd.R_reads' HO108.out).2.1); (case side3 => repeat (first | exact (Kd.R_reads' HO111.out).2.2 | (with_reducible refine Kd.C_alloc ?_ _) | (with_reducible refine Kd.C_drewN ?_ _) | (with_reducible refine Kd.C_drew ?_))); (case side4 => exact (Kd.R_reads' HO111.out).2.1); rintro e w' ⟨rfl, ⟨nd, rfl⟩⟩; refine ⟨_, rfl, ?_⟩) | ((with_reducible refine gate_callee (f := 14) rfl ?_); refine goesL_ (some 5) rfl rfl Try.func14 (by kernel_rfl) rfl #[.int .i64 3, .int .i64 2, .int .i64 4, .int .i64 8] rfl (by (try simp only [List.map_toArray, List.map_cons, List.map_nil]); first | done | rfl | (simp only [List.length_drop, List.length_take]; rfl)) ?_; (with_reducible refine (mel_Weight.calls 3 2 4 8 t113 _ A3.out).mono ?_); rintro e w' ⟨rfl, ⟨nd, rfl⟩⟩; refine ⟨_, rfl, ?_⟩) | (go_at_call 14; (with_reducible refine (mel_Weight.calls 5 2 4 8 t114 _ A5.out).mono ?_); rintro e w' ⟨rfl, ⟨nd, rfl⟩⟩))
      go_ret
      exact ⟨by first | rfl | (simp [errW_none, errW_some] <;> rfl) | (simp [*, errW_none, errW_some] <;> rfl), by repeat (first | (with_reducible first | exact HB.out | apply below_alloc | apply pw_below_drewN | apply below_drew1) | exact HB.out)⟩
    · rw [if_neg c6] at H
      have c6b0 : (t114 == 192) = false := beq_eq_false_iff_ne.mpr c6
      have c6b1 : (t114 != 192) = true := bne_iff_ne.mpr c6
      obtain rfl := Option.some.inj H
      go_enter Try.func8, Try.ntmps8
      go_wp2_with (first | ((with_reducible refine gate_callee (f := 10) rfl ?_); refine goesL_ (some 2) rfl rfl Try.func10 (by kernel_rfl) rfl #[.int .i64 9, .int .i64 1] rfl (by (try simp only [List.map_toArray, List.map_cons, List.map_nil]); first | done | rfl | (simp only [List.length_drop, List.length_take]; rfl)) ?_; (with_reducible refine (mel_Edges.calls 9 1 t106 _ A1.out).mono ?_); rintro e w12 ⟨v107, rfl, ho0, hb⟩; refine ⟨_, rfl, ?_⟩; have n0_ := Aside0.mk (Kd.R_lower ho0 (below_size (by repeat (first | (with_reducible first | exact HB.out | apply below_alloc | apply pw_below_drewN | apply below_drew1) | exact HB.out)))); have n1_ := Aside0.mk (below_step (by repeat (first | (with_reducible first | exact HB.out | apply below_alloc | apply pw_below_drewN | apply below_drew1) | exact HB.out)) hb); clear HB; have HO108 := n0_; have HB := n1_; clear n0_ n1_; (try clear hb); (try clear hb2); (try clear hk); (try clear hi); (try clear ho0)) | ((with_reducible refine gate_dst (N := 3) rfl ?_); refine Kd.R_lit (Kd.int .i64) _ 3 ?hg (N := 3) ?hd (xs := ([0, 4, 8] : List Int)) (inner := [.int .i64 0, .int .i64 4, .int .i64 8]) (ok := fun _ => True) (okp := fun _ => True) ?hr ?hp (fun _ hk => hk) trivial (Below.refl _ _) (Nat.le_refl _) (by simp) ?_; (case hd => rfl); (case hg => first | rfl | exact wanted_on rfl rfl rfl (by first | assumption | rfl | (simp [*]; done))); (case hr => first | (go_simp; done) | (go_simp; rfl)); (case hp => exact (Reps.one (show Kd.M (Kd.int .i64) _ _ _ 0 [.int .i64 0] from rfl) (Reps.one (show Kd.M (Kd.int .i64) _ _ _ 4 [.int .i64 4] from rfl) (Reps.one (show Kd.M (Kd.int .i64) _ _ _ 8 [.int .i64 8] from rfl) (Reps.none _ _))))); intro v110 w13 ho14 hb hg_ hnew_; clear hg_ hnew_; (first | rw [← Ny109.out] at ho14 | (simp only [Int.reduceToNat] at ho14; rw [← Ny109.out] at ho14)); have n0_ := Aside0.mk (Kd.R_elder' (by (with_reducible repeat (first | apply Kd.R_alloc | apply Kd.R_drewN | apply Kd.R_drew)); (first | exact HO108.out | exact Kd.R_mono HO108.out (fun _ _ => trivial) | exact Kd.R_mono HO108.out (fun _ hk => hk.1))) (Kd.R_base ho14) hb); have n1_ := Aside0.mk (Kd.R_lower (Kd.R_new' ho14 (Kd.R_lt (by (with_reducible repeat (first | apply Kd.R_alloc | apply Kd.R_drewN | apply Kd.R_drew)); (first | exact HO108.out | exact Kd.R_mono HO108.out (fun _ _ => trivial) | exact Kd.R_mono HO108.out (fun _ hk => hk.1))))) (below_size (by repeat (first | (with_reducible first | exact HB.out | apply below_alloc | apply pw_below_drewN | apply below_drew1) | exact HB.out)))); have n2_ := Aside0.mk (below_step (by repeat (first | (with_reducible first | exact HB.out | apply below_alloc | apply pw_below_drewN | apply below_drew1) | exact HB.out)) hb); clear HO108; clear HB; have HO108 := n0_; have HO111 := n1_; have HB := n2_; clear n0_ n1_ n2_; clear hb ho14; obtain ⟨Ao15, co15, eo15⟩ := Kd.R_slice HO108.out; subst eo15; obtain ⟨Ao16, co16, eo16⟩ := Kd.R_slice HO111.out; subst eo16) | ((with_reducible refine gate_callee (f := 9) rfl ?_); refine goesL_ (some 4) rfl rfl Try.func9 (by kernel_rfl) rfl #[.slice Ao15 t106.length co15, .slice Ao16 y109.length co16] rfl (by (try simp only [List.map_toArray, List.map_cons, List.map_nil]); first | done | rfl | (simp only [List.length_drop, List.length_take]; rfl)) ?_; (with_reducible refine (earshotref04_Same.calls k _ _ t106 _ _ y109 t112 _ ?side1 ?side2 ?side3 ?side4 A2.out).mono ?_); (case side1 => repeat (first | exact (Kd.R_reads' HO108.out).2.2 | (with_reducible refine Kd.C_alloc ?_ _) | (with_reducible refine Kd.C_drewN ?_ _) | (with_reducible refine Kd.C_drew ?_))); (case side2 => exact (Kd.R_reads' HO108.out).2.1); (case side3 => repeat (first | exact (Kd.R_reads' HO111.out).2.2 | (with_reducible refine Kd.C_alloc ?_ _) | (with_reducible refine Kd.C_drewN ?_ _) | (with_reducible refine Kd.C_drew ?_))); (case side4 => exact (Kd.R_reads' HO111.out).2.1); rintro e w' ⟨rfl, ⟨nd, rfl⟩⟩; refine ⟨_, rfl, ?_⟩) | ((with_reducible refine gate_callee (f := 14) rfl ?_); refine goesL_ (some 5) rfl rfl Try.func14 (by kernel_rfl) rfl #[.int .i64 3, .int .i64 2, .int .i64 4, .int .i64 8] rfl (by (try simp only [List.map_toArray, List.map_cons, List.map_nil]); first | done | rfl | (simp only [List.length_drop, List.length_take]; rfl)) ?_; (with_reducible refine (mel_Weight.calls 3 2 4 8 t113 _ A3.out).mono ?_); rintro e w' ⟨rfl, ⟨nd, rfl⟩⟩; refine ⟨_, rfl, ?_⟩) | (go_at_call 14; (with_reducible refine (mel_Weight.calls 5 2 4 8 t114 _ A5.out).mono ?_); rintro e w' ⟨rfl, ⟨nd, rfl⟩⟩))
      go_ret
      exact ⟨by first | rfl | (simp [errW_none, errW_some] <;> rfl) | (simp [*, errW_none, errW_some] <;> rfl), by repeat (first | (with_reducible first | exact HB.out | apply below_alloc | apply pw_below_drewN | apply below_drew1) | exact HB.out)⟩
  · rw [if_neg c4] at H
    have c4b0 : (t113 == 128) = false := beq_eq_false_iff_ne.mpr c4
    have c4b1 : (t113 != 128) = true := bne_iff_ne.mpr c4
    obtain rfl := Option.some.inj H
    go_enter Try.func8, Try.ntmps8
    go_wp2_with (first | ((with_reducible refine gate_callee (f := 10) rfl ?_); refine goesL_ (some 2) rfl rfl Try.func10 (by kernel_rfl) rfl #[.int .i64 9, .int .i64 1] rfl (by (try simp only [List.map_toArray, List.map_cons, List.map_nil]); first | done | rfl | (simp only [List.length_drop, List.length_take]; rfl)) ?_; (with_reducible refine (mel_Edges.calls 9 1 t106 _ A1.out).mono ?_); rintro e w17 ⟨v107, rfl, ho0, hb⟩; refine ⟨_, rfl, ?_⟩; have n0_ := Aside0.mk (Kd.R_lower ho0 (below_size (by repeat (first | (with_reducible first | exact HB.out | apply below_alloc | apply pw_below_drewN | apply below_drew1) | exact HB.out)))); have n1_ := Aside0.mk (below_step (by repeat (first | (with_reducible first | exact HB.out | apply below_alloc | apply pw_below_drewN | apply below_drew1) | exact HB.out)) hb); clear HB; have HO108 := n0_; have HB := n1_; clear n0_ n1_; (try clear hb); (try clear hb2); (try clear hk); (try clear hi); (try clear ho0)) | ((with_reducible refine gate_dst (N := 3) rfl ?_); refine Kd.R_lit (Kd.int .i64) _ 3 ?hg (N := 3) ?hd (xs := ([0, 4, 8] : List Int)) (inner := [.int .i64 0, .int .i64 4, .int .i64 8]) (ok := fun _ => True) (okp := fun _ => True) ?hr ?hp (fun _ hk => hk) trivial (Below.refl _ _) (Nat.le_refl _) (by simp) ?_; (case hd => rfl); (case hg => first | rfl | exact wanted_on rfl rfl rfl (by first | assumption | rfl | (simp [*]; done))); (case hr => first | (go_simp; done) | (go_simp; rfl)); (case hp => exact (Reps.one (show Kd.M (Kd.int .i64) _ _ _ 0 [.int .i64 0] from rfl) (Reps.one (show Kd.M (Kd.int .i64) _ _ _ 4 [.int .i64 4] from rfl) (Reps.one (show Kd.M (Kd.int .i64) _ _ _ 8 [.int .i64 8] from rfl) (Reps.none _ _))))); intro v110 w18 ho19 hb hg_ hnew_; clear hg_ hnew_; (first | rw [← Ny109.out] at ho19 | (simp only [Int.reduceToNat] at ho19; rw [← Ny109.out] at ho19)); have n0_ := Aside0.mk (Kd.R_elder' (by (with_reducible repeat (first | apply Kd.R_alloc | apply Kd.R_drewN | apply Kd.R_drew)); (first | exact HO108.out | exact Kd.R_mono HO108.out (fun _ _ => trivial) | exact Kd.R_mono HO108.out (fun _ hk => hk.1))) (Kd.R_base ho19) hb); have n1_ := Aside0.mk (Kd.R_lower (Kd.R_new' ho19 (Kd.R_lt (by (with_reducible repeat (first | apply Kd.R_alloc | apply Kd.R_drewN | apply Kd.R_drew)); (first | exact HO108.out | exact Kd.R_mono HO108.out (fun _ _ => trivial) | exact Kd.R_mono HO108.out (fun _ hk => hk.1))))) (below_size (by repeat (first | (with_reducible first | exact HB.out | apply below_alloc | apply pw_below_drewN | apply below_drew1) | exact HB.out)))); have n2_ := Aside0.mk (below_step (by repeat (first | (with_reducible first | exact HB.out | apply below_alloc | apply pw_below_drewN | apply below_drew1) | exact HB.out)) hb); clear HO108; clear HB; have HO108 := n0_; have HO111 := n1_; have HB := n2_; clear n0_ n1_ n2_; clear hb ho19; obtain ⟨Ao20, co20, eo20⟩ := Kd.R_slice HO108.out; subst eo20; obtain ⟨Ao21, co21, eo21⟩ := Kd.R_slice HO111.out; subst eo21) | ((with_reducible refine gate_callee (f := 9) rfl ?_); refine goesL_ (some 4) rfl rfl Try.func9 (by kernel_rfl) rfl #[.slice Ao20 t106.length co20, .slice Ao21 y109.length co21] rfl (by (try simp only [List.map_toArray, List.map_cons, List.map_nil]); first | done | rfl | (simp only [List.length_drop, List.length_take]; rfl)) ?_; (with_reducible refine (earshotref04_Same.calls k _ _ t106 _ _ y109 t112 _ ?side1 ?side2 ?side3 ?side4 A2.out).mono ?_); (case side1 => repeat (first | exact (Kd.R_reads' HO108.out).2.2 | (with_reducible refine Kd.C_alloc ?_ _) | (with_reducible refine Kd.C_drewN ?_ _) | (with_reducible refine Kd.C_drew ?_))); (case side2 => exact (Kd.R_reads' HO108.out).2.1); (case side3 => repeat (first | exact (Kd.R_reads' HO111.out).2.2 | (with_reducible refine Kd.C_alloc ?_ _) | (with_reducible refine Kd.C_drewN ?_ _) | (with_reducible refine Kd.C_drew ?_))); (case side4 => exact (Kd.R_reads' HO111.out).2.1); rintro e w' ⟨rfl, ⟨nd, rfl⟩⟩; refine ⟨_, rfl, ?_⟩) | ((with_reducible refine gate_callee (f := 14) rfl ?_); refine goesL_ (some 5) rfl rfl Try.func14 (by kernel_rfl) rfl #[.int .i64 3, .int .i64 2, .int .i64 4, .int .i64 8] rfl (by (try simp only [List.map_toArray, List.map_cons, List.map_nil]); first | done | rfl | (simp only [List.length_drop, List.length_take]; rfl)) ?_; (with_reducible refine (mel_Weight.calls 3 2 4 8 t113 _ A3.out).mono ?_); rintro e w' ⟨rfl, ⟨nd, rfl⟩⟩; refine ⟨_, rfl, ?_⟩))
    go_ret
    exact ⟨by first | rfl | (simp [errW_none, errW_some] <;> rfl) | (simp [*, errW_none, errW_some] <;> rfl), by repeat (first | (with_reducible first | exact HB.out | apply below_alloc | apply pw_below_drewN | apply below_drew1) | exact HB.out)⟩

/-! ### earshotref03_Bits: function 26 -/
def earshotref03_Bits.l0 : Nat → Int → Int → Option (Int)
  | 0, _, _ => none
  | k + 1, x0, x3 => if x0 > 0 then (earshotref03_Bits.l0 k (IntKind.u64.wrap (Int.tdiv x0 2)) (wrap64 (x3 + 1))) else (some x3)
def earshotref03_Bits.f (k : Nat) (a0 : Int) : Option (Int) := earshotref03_Bits.l0 k a0 0
theorem earshotref03_Bits.mono_l : ∀ k, (∀ y0 y1, LeO (earshotref03_Bits.l0 k y0 y1) (earshotref03_Bits.l0 (k + 1) y0 y1))
  | 0 => fun _ _ r h => by simp [earshotref03_Bits.l0] at h
  | k + 1 => by
    have ih0 := earshotref03_Bits.mono_l k
    · intro y0 y1
      unfold earshotref03_Bits.l0
      repeat' first
      | (with_reducible exact ih0 _ _)
      | (with_reducible exact LeO.refl _)
      | (with_reducible exact LeO.none _)
      | (with_reducible refine LeO.ite ?_ ?_)
      | (with_reducible refine LeO.bind ?_ (fun _ => ?_))
      | exact ih0 _ _
      | exact LeO.none _
      | refine LeO.ite ?_ ?_
      | refine LeO.bind ?_ (fun _ => ?_)
theorem earshotref03_Bits.mono : ∀ a0 k, LeO (earshotref03_Bits.f k a0) (earshotref03_Bits.f (k + 1) a0) := by
  intro a0 k
  have ih0 := earshotref03_Bits.mono_l k
  unfold earshotref03_Bits.f
  repeat' first
      | (with_reducible exact ih0 _ _)
      | (with_reducible exact LeO.refl _)
      | (with_reducible exact LeO.none _)
      | (with_reducible refine LeO.ite ?_ ?_)
      | (with_reducible refine LeO.bind ?_ (fun _ => ?_))
      | exact ih0 _ _
      | exact LeO.none _
      | refine LeO.ite ?_ ?_
      | refine LeO.bind ?_ (fun _ => ?_)
set_option maxHeartbeats 8000000 in
set_option maxRecDepth 100000 in
theorem earshotref03_Bits.calls (k : Nat) (a0 : Int) (r : Int) (w : World) (h : earshotref03_Bits.f k a0 = some r) :
    Calls Try.prog 26 #[.int .u64 a0] w fun e w' => e = .returned (.int .i64 r) ∧ Drawn0 w w' := by
  have H : (earshotref03_Bits.l0 k a0 0) = some r := h
  clear h
  have H' := Aside0.mk H
  clear H
  go_enter Try.func26, Try.ntmps26
  go_wp2
  go_loopg [0, 3] k (fun kq v0 v3 w' => ∃ (x0_1 : Int) (x3_1 : Int), v0 = .int .u64 x0_1 ∧ v3 = .int .i64 x3_1 ∧ Aside0 (earshotref03_Bits.l0 kq x0_1 x3_1 = some r) ∧ Aside0 (kq ≤ k) ∧ Drawn0 w w')
  case atStart => exact ⟨(a0), (0), (by first | rfl | (simp; done) | (simp [*]; done)), (by first | rfl | (simp; done) | (simp [*]; done)), H', ⟨Nat.le_refl _⟩, by repeat (first | exact Drawn0.refl _ | apply Drawn0.step)⟩
  case round =>
    clear H'
    obtain ⟨x0_1, x3_1, rfl, rfl, HA, HK1, ⟨m1, rfl⟩⟩ := hrel
    cases gk with
    | zero => exact absurd HA.out (by simp [earshotref03_Bits.l0])
    | succ k1 =>
      have H := HA.out
      clear HA
      simp only [earshotref03_Bits.l0] at H
      by_cases c2 : x0_1 > 0
      · rw [if_pos c2] at H
        have c2b0 : decide (0 < x0_1) = true := decide_eq_true c2
        clear c2
        have H' := Aside0.mk H
        clear H
        go_wp2
        go_roundg k1
        case measure => have := HK1.out; omega
        case rel => exact ⟨(IntKind.u64.wrap (Int.tdiv x0_1 2)), (wrap64 (x3_1 + 1)), (by first | rfl | (simp; done) | (simp [*]; done)), (by first | rfl | (simp; done) | (simp [*]; done)), H', ⟨by have := HK1.out; omega⟩, by repeat (first | exact Drawn0.refl _ | apply Drawn0.step)⟩
      · rw [if_neg c2] at H
        have c2b0 : decide (0 < x0_1) = false := decide_eq_false c2
        clear c2
        obtain rfl := Option.some.inj H
        go_wp2
        go_ret
        exact ⟨by first | rfl | (simp; done) | (simp [*]; done), by repeat (first | exact Drawn0.refl _ | apply Drawn0.step)⟩

/-! ### earshotref03_Log: function 20 -/
mutual
def earshotref03_Log.l0 : Nat → Int → Int → Option (Int)
  | 0, _, _ => none
  | k + 1, x3, x4 => if x4 < 2147483648 then (earshotref03_Log.l0 k x3 (IntKind.u64.wrap (x4 * 2))) else (earshotref03_Log.l1 k x3 x4)
def earshotref03_Log.l1 : Nat → Int → Int → Option (Int)
  | 0, _, _ => none
  | k + 1, x3, x4 => if x4 ≥ 4294967296 then (earshotref03_Log.l1 k x3 (IntKind.u64.wrap (Int.tdiv x4 2))) else (earshotref03_Log.l2 k x3 x4 0 0)
def earshotref03_Log.l2 : Nat → Int → Int → Int → Int → Option (Int)
  | 0, _, _, _, _ => none
  | k + 1, x3, x4, x5, x6 => if x6 < 8 then (if (IntKind.u64.wrap (Int.tdiv (IntKind.u64.wrap (x4 * x4)) 2147483648)) ≥ 4294967296 then (earshotref03_Log.l2 k x3 (IntKind.u64.wrap (Int.tdiv (IntKind.u64.wrap (Int.tdiv (IntKind.u64.wrap (x4 * x4)) 2147483648)) 2)) (wrap64 ((wrap64 (x5 * 2)) + 1)) (wrap64 (x6 + 1))) else (earshotref03_Log.l2 k x3 (IntKind.u64.wrap (Int.tdiv (IntKind.u64.wrap (x4 * x4)) 2147483648)) (wrap64 (x5 * 2)) (wrap64 (x6 + 1)))) else (some (wrap64 ((wrap64 (256 * x3)) + x5)))
end
def earshotref03_Log.f (k : Nat) (a0 : Int) : Option (Int) := if a0 = 0 then (some 0) else ((earshotref03_Bits.f k a0).bind fun t115 => (earshotref03_Log.l0 k (wrap64 (t115 - 1)) a0))
theorem earshotref03_Log.mono_l : ∀ k, (∀ y0 y1, LeO (earshotref03_Log.l0 k y0 y1) (earshotref03_Log.l0 (k + 1) y0 y1)) ∧ (∀ y0 y1, LeO (earshotref03_Log.l1 k y0 y1) (earshotref03_Log.l1 (k + 1) y0 y1)) ∧ (∀ y0 y1 y2 y3, LeO (earshotref03_Log.l2 k y0 y1 y2 y3) (earshotref03_Log.l2 (k + 1) y0 y1 y2 y3))
  | 0 => ⟨fun _ _ r h => by simp [earshotref03_Log.l0] at h, fun _ _ r h => by simp [earshotref03_Log.l1] at h, fun _ _ _ _ r h => by simp [earshotref03_Log.l2] at h⟩
  | k + 1 => by
    obtain ⟨ih0, ih1, ih2⟩ := earshotref03_Log.mono_l k
    refine ⟨?_, ?_, ?_⟩
    · intro y0 y1
      unfold earshotref03_Log.l0
      repeat' first
      | (with_reducible exact ih0 _ _)
      | (with_reducible exact ih1 _ _)
      | (with_reducible exact ih2 _ _ _ _)
      | (with_reducible exact earshotref03_Bits.mono _ _)
      | (with_reducible exact LeO.refl _)
      | (with_reducible exact LeO.none _)
      | (with_reducible refine LeO.ite ?_ ?_)
      | (with_reducible refine LeO.bind ?_ (fun _ => ?_))
      | exact ih0 _ _
      | exact ih1 _ _
      | exact ih2 _ _ _ _
      | exact earshotref03_Bits.mono _ _
      | exact LeO.none _
      | refine LeO.ite ?_ ?_
      | refine LeO.bind ?_ (fun _ => ?_)
    · intro y0 y1
      unfold earshotref03_Log.l1
      repeat' first
      | (with_reducible exact ih0 _ _)
      | (with_reducible exact ih1 _ _)
      | (with_reducible exact ih2 _ _ _ _)
      | (with_reducible exact earshotref03_Bits.mono _ _)
      | (with_reducible exact LeO.refl _)
      | (with_reducible exact LeO.none _)
      | (with_reducible refine LeO.ite ?_ ?_)
      | (with_reducible refine LeO.bind ?_ (fun _ => ?_))
      | exact ih0 _ _
      | exact ih1 _ _
      | exact ih2 _ _ _ _
      | exact earshotref03_Bits.mono _ _
      | exact LeO.none _
      | refine LeO.ite ?_ ?_
      | refine LeO.bind ?_ (fun _ => ?_)
    · intro y0 y1 y2 y3
      unfold earshotref03_Log.l2
      repeat' first
      | (with_reducible exact ih0 _ _)
      | (with_reducible exact ih1 _ _)
      | (with_reducible exact ih2 _ _ _ _)
      | (with_reducible exact earshotref03_Bits.mono _ _)
      | (with_reducible exact LeO.refl _)
      | (with_reducible exact LeO.none _)
      | (with_reducible refine LeO.ite ?_ ?_)
      | (with_reducible refine LeO.bind ?_ (fun _ => ?_))
      | exact ih0 _ _
      | exact ih1 _ _
      | exact ih2 _ _ _ _
      | exact earshotref03_Bits.mono _ _
      | exact LeO.none _
      | refine LeO.ite ?_ ?_
      | refine LeO.bind ?_ (fun _ => ?_)
theorem earshotref03_Log.mono : ∀ a0 k, LeO (earshotref03_Log.f k a0) (earshotref03_Log.f (k + 1) a0) := by
  intro a0 k
  obtain ⟨ih0, ih1, ih2⟩ := earshotref03_Log.mono_l k
  unfold earshotref03_Log.f
  repeat' first
      | (with_reducible exact ih0 _ _)
      | (with_reducible exact ih1 _ _)
      | (with_reducible exact ih2 _ _ _ _)
      | (with_reducible exact earshotref03_Bits.mono _ _)
      | (with_reducible exact LeO.refl _)
      | (with_reducible exact LeO.none _)
      | (with_reducible refine LeO.ite ?_ ?_)
      | (with_reducible refine LeO.bind ?_ (fun _ => ?_))
      | exact ih0 _ _
      | exact ih1 _ _
      | exact ih2 _ _ _ _
      | exact earshotref03_Bits.mono _ _
      | exact LeO.none _
      | refine LeO.ite ?_ ?_
      | refine LeO.bind ?_ (fun _ => ?_)
set_option maxHeartbeats 8000000 in
set_option maxRecDepth 100000 in
theorem earshotref03_Log.calls (k : Nat) (a0 : Int) (r : Int) (w : World) (h : earshotref03_Log.f k a0 = some r) :
    Calls Try.prog 20 #[.int .u64 a0] w fun e w' => e = .returned (.int .i64 r) ∧ Drawn0 w w' := by
  have H : (if a0 = 0 then (some 0) else ((earshotref03_Bits.f k a0).bind fun t115 => (earshotref03_Log.l0 k (wrap64 (t115 - 1)) a0))) = some r := h
  clear h
  by_cases c2 : a0 = 0
  · rw [if_pos c2] at H
    have c2b0 : (a0 == 0) = true := beq_iff_eq.mpr c2
    have c2b1 : (a0 != 0) = false := bne_eq_false_iff_eq.mpr c2
    clear c2
    obtain rfl := Option.some.inj H
    go_enter Try.func20, Try.ntmps20
    go_wp2
    go_ret
    exact ⟨by first | rfl | (simp; done) | (simp [*]; done), by repeat (first | exact Drawn0.refl _ | apply Drawn0.step)⟩
  · rw [if_neg c2] at H
    have c2b0 : (a0 == 0) = false := beq_eq_false_iff_ne.mpr c2
    have c2b1 : (a0 != 0) = true := bne_iff_ne.mpr c2
    replace H := Option.bind_eq_some_iff.mp H
    obtain ⟨t115, A30, H⟩ := H
    replace H : (earshotref03_Log.l0 k (wrap64 (t115 - 1)) a0) = some r := H
    have A3 := Aside0.mk A30
    clear A30
    have H' := Aside0.mk H
    clear H
    go_enter Try.func20, Try.ntmps20
    go_wp2_with (first | ((with_reducible refine gate_callee (f := 26) rfl ?_); refine goesL_ (some 10) rfl rfl Try.func26 (by kernel_rfl) rfl #[.int .u64 a0] rfl (by (try simp only [List.map_toArray, List.map_cons, List.map_nil]); first | done | rfl | (simp only [List.length_drop, List.length_take]; rfl)) ?_; (with_reducible refine (earshotref03_Bits.calls k a0 t115 _ A3.out).mono ?_); rintro e w' ⟨rfl, ⟨nd, rfl⟩⟩; refine ⟨_, rfl, ?_⟩))
    go_loopg [4] k (fun kq v4 w' => ∃ (x4_1 : Int), v4 = .int .u64 x4_1 ∧ Aside0 (earshotref03_Log.l0 kq (wrap64 (t115 - 1)) x4_1 = some r) ∧ Aside0 (kq ≤ k) ∧ Drawn0 w w')
    case atStart => exact ⟨(a0), (by first | rfl | (simp; done) | (simp [*]; done)), H', ⟨Nat.le_refl _⟩, by repeat (first | exact Drawn0.refl _ | apply Drawn0.step)⟩
    case round =>
      clear H'
      try clear c2
      try clear c2b0
      try clear c2b1
      try clear p2
      obtain ⟨x4_1, rfl, HA, HK1, ⟨m1, rfl⟩⟩ := hrel
      cases gk with
      | zero => exact absurd HA.out (by simp [earshotref03_Log.l0])
      | succ k1 =>
        have H := HA.out
        clear HA
        simp only [earshotref03_Log.l0] at H
        by_cases c4 : x4_1 < 2147483648
        · rw [if_pos c4] at H
          have c4b0 : decide (x4_1 < 2147483648) = true := decide_eq_true c4
          clear c4
          have H' := Aside0.mk H
          clear H
          go_wp2
          go_roundg k1
          case measure => have := HK1.out; omega
          case rel => exact ⟨(IntKind.u64.wrap (x4_1 * 2)), (by first | rfl | (simp; done) | (simp [*]; done)), H', ⟨by have := HK1.out; omega⟩, by repeat (first | exact Drawn0.refl _ | apply Drawn0.step)⟩
        · rw [if_neg c4] at H
          have c4b0 : decide (x4_1 < 2147483648) = false := decide_eq_false c4
          clear c4
          have H' := Aside0.mk H
          clear H
          go_wp2
          go_loopg [4] k1 (fun kq v4 w' => ∃ (x4_2 : Int), v4 = .int .u64 x4_2 ∧ Aside0 (earshotref03_Log.l1 kq (wrap64 (t115 - 1)) x4_2 = some r) ∧ Aside0 (kq ≤ k1) ∧ Drawn0 w w')
          case atStart => exact ⟨(x4_1), (by first | rfl | (simp; done) | (simp [*]; done)), H', ⟨Nat.le_refl _⟩, by repeat (first | exact Drawn0.refl _ | apply Drawn0.step)⟩
          case round =>
            clear H'
            try clear c2
            try clear c2b0
            try clear c2b1
            try clear p2
            try clear c4
            try clear c4b0
            try clear p2
            obtain ⟨x4_2, rfl, HA, HK2, ⟨m2, rfl⟩⟩ := hrel
            cases gk with
            | zero => exact absurd HA.out (by simp [earshotref03_Log.l1])
            | succ k2 =>
              have H := HA.out
              clear HA
              simp only [earshotref03_Log.l1] at H
              by_cases c5 : x4_2 ≥ 4294967296
              · rw [if_pos c5] at H
                have c5b0 : decide (4294967296 ≤ x4_2) = true := decide_eq_true c5
                clear c5
                have H' := Aside0.mk H
                clear H
                go_wp2
                go_roundg k2
                case measure => have := HK1.out; have := HK2.out; omega
                case rel => exact ⟨(IntKind.u64.wrap (Int.tdiv x4_2 2)), (by first | rfl | (simp; done) | (simp [*]; done)), H', ⟨by have := HK1.out; have := HK2.out; omega⟩, by repeat (first | exact Drawn0.refl _ | apply Drawn0.step)⟩
              · rw [if_neg c5] at H
                have c5b0 : decide (4294967296 ≤ x4_2) = false := decide_eq_false c5
                clear c5
                have H' := Aside0.mk H
                clear H
                go_wp2
                go_loopg [4, 5, 6] k2 (fun kq v4 v5 v6 w' => ∃ (x4_3 : Int) (x5_3 : Int) (x6_3 : Int), v4 = .int .u64 x4_3 ∧ v5 = .int .i64 x5_3 ∧ v6 = .int .i64 x6_3 ∧ Aside0 (earshotref03_Log.l2 kq (wrap64 (t115 - 1)) x4_3 x5_3 x6_3 = some r) ∧ Aside0 (kq ≤ k2) ∧ Drawn0 w w')
                case atStart => exact ⟨(x4_2), (0), (0), (by first | rfl | (simp; done) | (simp [*]; done)), (by first | rfl | (simp; done) | (simp [*]; done)), (by first | rfl | (simp; done) | (simp [*]; done)), H', ⟨Nat.le_refl _⟩, by repeat (first | exact Drawn0.refl _ | apply Drawn0.step)⟩
                case round =>
                  clear H'
                  try clear c2
                  try clear c2b0
                  try clear c2b1
                  try clear p2
                  try clear c4
                  try clear c4b0
                  try clear c5
                  try clear c5b0
                  try clear p2
                  obtain ⟨x4_3, x5_3, x6_3, rfl, rfl, rfl, HA, HK3, ⟨m3, rfl⟩⟩ := hrel
                  cases gk with
                  | zero => exact absurd HA.out (by simp [earshotref03_Log.l2])
                  | succ k3 =>
                    have H := HA.out
                    clear HA
                    simp only [earshotref03_Log.l2] at H
                    by_cases c6 : x6_3 < 8
                    · rw [if_pos c6] at H
                      have c6b0 : decide (x6_3 < 8) = true := decide_eq_true c6
                      clear c6
                      by_cases c7 : (IntKind.u64.wrap (Int.tdiv (IntKind.u64.wrap (x4_3 * x4_3)) 2147483648)) ≥ 4294967296
                      · rw [if_pos c7] at H
                        have c7b0 : decide (4294967296 ≤ (IntKind.u64.wrap (Int.tdiv (IntKind.u64.wrap (x4_3 * x4_3)) 2147483648))) = true := decide_eq_true c7
                        clear c7
                        have H' := Aside0.mk H
                        clear H
                        go_wp2
                        go_roundg k3
                        case measure => have := HK1.out; have := HK2.out; have := HK3.out; omega
                        case rel => exact ⟨(IntKind.u64.wrap (Int.tdiv (IntKind.u64.wrap (Int.tdiv (IntKind.u64.wrap (x4_3 * x4_3)) 2147483648)) 2)), (wrap64 ((wrap64 (x5_3 * 2)) + 1)), (wrap64 (x6_3 + 1)), (by first | rfl | (simp; done) | (simp [*]; done)), (by first | rfl | (simp; done) | (simp [*]; done)), (by first | rfl | (simp; done) | (simp [*]; done)), H', ⟨by have := HK1.out; have := HK2.out; have := HK3.out; omega⟩, by repeat (first | exact Drawn0.refl _ | apply Drawn0.step)⟩
                      · rw [if_neg c7] at H
                        have c7b0 : decide (4294967296 ≤ (IntKind.u64.wrap (Int.tdiv (IntKind.u64.wrap (x4_3 * x4_3)) 2147483648))) = false := decide_eq_false c7
                        clear c7
                        have H' := Aside0.mk H
                        clear H
                        go_wp2
                        go_roundg k3
                        case measure => have := HK1.out; have := HK2.out; have := HK3.out; omega
                        case rel => exact ⟨(IntKind.u64.wrap (Int.tdiv (IntKind.u64.wrap (x4_3 * x4_3)) 2147483648)), (wrap64 (x5_3 * 2)), (wrap64 (x6_3 + 1)), (by first | rfl | (simp; done) | (simp [*]; done)), (by first | rfl | (simp; done) | (simp [*]; done)), (by first | rfl | (simp; done) | (simp [*]; done)), H', ⟨by have := HK1.out; have := HK2.out; have := HK3.out; omega⟩, by repeat (first | exact Drawn0.refl _ | apply Drawn0.step)⟩
                    · rw [if_neg c6] at H
                      have c6b0 : decide (x6_3 < 8) = false := decide_eq_false c6
                      clear c6
                      obtain rfl := Option.some.inj H
                      go_wp2
                      go_ret
                      exact ⟨by first | rfl | (simp; done) | (simp [*]; done), by repeat (first | exact Drawn0.refl _ | apply Drawn0.step)⟩

/-! ### earshotref11_High: function 13 -/
def earshotref11_High.f (k : Nat) (a0 : Int) : Option (Int) := if a0 < 0 then (some 0) else (if a0 > 64 then (some 0) else ((earshotref03_Log.f k (IntKind.u64.wrap (wrap64 (64 + (wrap64 (8 * a0)))))).bind fun t116 => (some (wrap64 (t116 - 1536)))))
theorem earshotref11_High.mono : ∀ a0 k, LeO (earshotref11_High.f k a0) (earshotref11_High.f (k + 1) a0) := by
  intro a0 k
  unfold earshotref11_High.f
  repeat' first
      | (with_reducible exact earshotref03_Log.mono _ _)
      | (with_reducible exact LeO.refl _)
      | (with_reducible exact LeO.none _)
      | (with_reducible refine LeO.ite ?_ ?_)
      | (with_reducible refine LeO.bind ?_ (fun _ => ?_))
      | exact earshotref03_Log.mono _ _
      | exact LeO.none _
      | refine LeO.ite ?_ ?_
      | refine LeO.bind ?_ (fun _ => ?_)
set_option maxHeartbeats 8000000 in
set_option maxRecDepth 100000 in
theorem earshotref11_High.calls (k : Nat) (a0 : Int) (r : Int) (w : World) (h : earshotref11_High.f k a0 = some r) :
    Calls Try.prog 13 #[.int .i64 a0] w fun e w' => e = .returned (.int .i64 r) ∧ Drawn0 w w' := by
  have H : (if a0 < 0 then (some 0) else (if a0 > 64 then (some 0) else ((earshotref03_Log.f k (IntKind.u64.wrap (wrap64 (64 + (wrap64 (8 * a0)))))).bind fun t116 => (some (wrap64 (t116 - 1536)))))) = some r := h
  clear h
  by_cases c2 : a0 < 0
  · rw [if_pos c2] at H
    have c2b0 : decide (a0 < 0) = true := decide_eq_true c2
    clear c2
    obtain rfl := Option.some.inj H
    go_enter Try.func13, Try.ntmps13
    go_wp2
    go_ret
    exact ⟨by first | rfl | (simp; done) | (simp [*]; done), by repeat (first | exact Drawn0.refl _ | apply Drawn0.step)⟩
  · rw [if_neg c2] at H
    have c2b0 : decide (a0 < 0) = false := decide_eq_false c2
    clear c2
    by_cases c3 : a0 > 64
    · rw [if_pos c3] at H
      have c3b0 : decide (64 < a0) = true := decide_eq_true c3
      clear c3
      obtain rfl := Option.some.inj H
      go_enter Try.func13, Try.ntmps13
      go_wp2
      go_ret
      exact ⟨by first | rfl | (simp; done) | (simp [*]; done), by repeat (first | exact Drawn0.refl _ | apply Drawn0.step)⟩
    · rw [if_neg c3] at H
      have c3b0 : decide (64 < a0) = false := decide_eq_false c3
      clear c3
      replace H := Option.bind_eq_some_iff.mp H
      obtain ⟨t116, A40, H⟩ := H
      replace H : (some (wrap64 (t116 - 1536))) = some r := H
      have A4 := Aside0.mk A40
      clear A40
      obtain rfl := Option.some.inj H
      go_enter Try.func13, Try.ntmps13
      go_wp2_with (first | ((with_reducible refine gate_callee (f := 20) rfl ?_); refine goesL_ (some 13) rfl rfl Try.func20 (by kernel_rfl) rfl #[.int .u64 (IntKind.u64.wrap (wrap64 (64 + (wrap64 (8 * a0)))))] rfl (by (try simp only [List.map_toArray, List.map_cons, List.map_nil]); first | done | rfl | (simp only [List.length_drop, List.length_take]; rfl)) ?_; (with_reducible refine (earshotref03_Log.calls k (IntKind.u64.wrap (wrap64 (64 + (wrap64 (8 * a0))))) t116 _ A4.out).mono ?_); rintro e w' ⟨rfl, ⟨nd, rfl⟩⟩; refine ⟨_, rfl, ?_⟩))
      go_ret
      exact ⟨by first | rfl | (simp; done) | (simp [*]; done), by repeat (first | exact Drawn0.refl _ | apply Drawn0.step)⟩

end Go.Proofs.Ytohmecfjpmapnaa.PMelTells
