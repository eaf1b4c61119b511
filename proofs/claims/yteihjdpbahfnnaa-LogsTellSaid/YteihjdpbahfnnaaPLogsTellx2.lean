-- Written by a program of this work (wip/tools) for this claim; Lean checks it.
import Derived.Test.YteihjdpbahfnnaaPLogsTellx0
import Derived.Test.YteihjdpbahfnnaaPLogsTellx1
namespace Go.Proofs.Yteihjdpbahfnnaa.PLogsTell
open Go.RowKit Go.Proofs.YteihjdpbahfnnaaW.PrintWords Go.Proofs.YteihjdpbahfnnaaW.PrintLast Go.Proofs.YteihjdpbahfnnaaW.PrintMore
attribute [local go_sem] max2_int min2_int max_two min_two max_three min_three max_four min_four   -- for this text's walks alone
set_option linter.unusedVariables false
set_option linter.unusedSimpArgs false

/-! ### earshotref03_size: function 35 -/
def earshotref03_size.f (a0 : Int) : Option (Int) := if a0 < 0 then (some (IntKind.u64.wrap ((IntKind.u64.wrap (wrap64 ((-1) - a0))) + 1))) else (some (IntKind.u64.wrap (a0)))
set_option maxHeartbeats 8000000 in
set_option maxRecDepth 100000 in
theorem earshotref03_size.calls (a0 : Int) (r : Int) (w : World) (h : earshotref03_size.f a0 = some r) :
    Calls Try.prog 35 #[.int .i64 a0] w fun e w' => e = .returned (.int .u64 r) ∧ Drawn0 w w' := by
  have H : (if a0 < 0 then (some (IntKind.u64.wrap ((IntKind.u64.wrap (wrap64 ((-1) - a0))) + 1))) else (some (IntKind.u64.wrap (a0)))) = some r := h
  clear h
  by_cases c2 : a0 < 0
  · rw [if_pos c2] at H
    have c2b0 : decide (a0 < 0) = true := decide_eq_true c2
    clear c2
    obtain rfl := Option.some.inj H
    go_enter Try.func35, Try.ntmps35
    go_wp2
    go_ret
    exact ⟨by first | rfl | (simp; done) | (simp [*]; done), by repeat (first | exact Drawn0.refl _ | apply Drawn0.step)⟩
  · rw [if_neg c2] at H
    have c2b0 : decide (a0 < 0) = false := decide_eq_false c2
    clear c2
    obtain rfl := Option.some.inj H
    go_enter Try.func35, Try.ntmps35
    go_wp2
    go_ret
    exact ⟨by first | rfl | (simp; done) | (simp [*]; done), by repeat (first | exact Drawn0.refl _ | apply Drawn0.step)⟩

/-! ### earshotref03_Norm: function 29 -/
def earshotref03_Norm.l0 : Nat → List Int → Int → Int → Option (Int)
  | 0, _, _, _ => none
  | k + 1, x0, x3, x4 => if x4 < (x0.length : Int) then (if 0 ≤ x4 then ((earshotref03_size.f (rd x0 x4)).bind fun t115 => ((earshotref03_Bits.f k t115).bind fun t116 => (if t116 > x3 then (earshotref03_Norm.l0 k x0 t116 (wrap64 (x4 + 1))) else (earshotref03_Norm.l0 k x0 x3 (wrap64 (x4 + 1)))))) else (none)) else (some x3)
def earshotref03_Norm.f (k : Nat) (l0 : List Int) : Option (Int) := earshotref03_Norm.l0 k l0 0 0
theorem earshotref03_Norm.mono_l : ∀ k, (∀ y0 y1 y2, LeO (earshotref03_Norm.l0 k y0 y1 y2) (earshotref03_Norm.l0 (k + 1) y0 y1 y2))
  | 0 => fun _ _ _ r h => by simp [earshotref03_Norm.l0] at h
  | k + 1 => by
    have ih0 := earshotref03_Norm.mono_l k
    · intro y0 y1 y2
      unfold earshotref03_Norm.l0
      repeat' first
      | (with_reducible exact ih0 _ _ _)
      | (with_reducible exact earshotref03_Bits.mono _ _)
      | (with_reducible exact LeO.refl _)
      | (with_reducible exact LeO.none _)
      | (with_reducible refine LeO.ite ?_ ?_)
      | (with_reducible refine LeO.bind ?_ (fun _ => ?_))
      | exact ih0 _ _ _
      | exact earshotref03_Bits.mono _ _
      | exact LeO.none _
      | refine LeO.ite ?_ ?_
      | refine LeO.bind ?_ (fun _ => ?_)
theorem earshotref03_Norm.mono : ∀ a0 k, LeO (earshotref03_Norm.f k a0) (earshotref03_Norm.f (k + 1) a0) := by
  intro a0 k
  have ih0 := earshotref03_Norm.mono_l k
  unfold earshotref03_Norm.f
  repeat' first
      | (with_reducible exact ih0 _ _ _)
      | (with_reducible exact earshotref03_Bits.mono _ _)
      | (with_reducible exact LeO.refl _)
      | (with_reducible exact LeO.none _)
      | (with_reducible refine LeO.ite ?_ ?_)
      | (with_reducible refine LeO.bind ?_ (fun _ => ?_))
      | exact ih0 _ _ _
      | exact earshotref03_Bits.mono _ _
      | exact LeO.none _
      | refine LeO.ite ?_ ?_
      | refine LeO.bind ?_ (fun _ => ?_)
set_option maxHeartbeats 8000000 in
set_option maxRecDepth 100000 in
theorem earshotref03_Norm.calls (k : Nat) (A0 : Option Addr) (c0 : Nat) (l0 : List Int) (r : Int) (w : World) (hr0 : Kd.C (Kd.int .i64) w A0 l0.length l0) (hc0 : l0.length ≤ c0) (h : earshotref03_Norm.f k l0 = some r) :
    Calls Try.prog 29 #[.slice A0 l0.length c0] w fun e w' => e = .returned (.int .i64 r) ∧ Drawn0 w w' := by
  have HR0 := Aside0.mk hr0
  have HC0 := Aside0.mk hc0
  clear hr0 hc0
  have H : (earshotref03_Norm.l0 k l0 0 0) = some r := h
  clear h
  have H' := Aside0.mk H
  clear H
  go_enter Try.func29, Try.ntmps29
  go_wp2
  go_loopg [3, 4] k (fun kq v3 v4 w' => ∃ (x3_1 : Int) (x4_1 : Int), v3 = .int .i64 x3_1 ∧ v4 = .int .i64 x4_1 ∧ Aside0 (earshotref03_Norm.l0 kq l0 x3_1 x4_1 = some r) ∧ Aside0 (kq ≤ k) ∧ Drawn0 w w')
  case atStart => exact ⟨(0), (0), (by first | rfl | (simp; done) | (simp [*]; done)), (by first | rfl | (simp; done) | (simp [*]; done)), H', ⟨Nat.le_refl _⟩, by repeat (first | exact Drawn0.refl _ | apply Drawn0.step)⟩
  case round =>
    clear H'
    obtain ⟨x3_1, x4_1, rfl, rfl, HA, HK1, ⟨m1, rfl⟩⟩ := hrel
    cases gk with
    | zero => exact absurd HA.out (by simp [earshotref03_Norm.l0])
    | succ k1 =>
      have H := HA.out
      clear HA
      simp only [earshotref03_Norm.l0] at H
      by_cases c2 : x4_1 < (l0.length : Int)
      · rw [if_pos c2] at H
        have c2b0 : decide (x4_1 < (l0.length : Int)) = true := decide_eq_true c2
        clear c2
        by_cases c3 : 0 ≤ x4_1
        · rw [if_pos c3] at H
          have c3b0 : decide (0 ≤ x4_1) = true := decide_eq_true c3
          clear c3
          replace H := Option.bind_eq_some_iff.mp H
          obtain ⟨t115, A40, H⟩ := H
          replace H : ((earshotref03_Bits.f k1 t115).bind fun t116 => (if t116 > x3_1 then (earshotref03_Norm.l0 k1 l0 t116 (wrap64 (x4_1 + 1))) else (earshotref03_Norm.l0 k1 l0 x3_1 (wrap64 (x4_1 + 1))))) = some r := H
          have A4 := Aside0.mk A40
          clear A40
          replace H := Option.bind_eq_some_iff.mp H
          obtain ⟨t116, A50, H⟩ := H
          replace H : (if t116 > x3_1 then (earshotref03_Norm.l0 k1 l0 t116 (wrap64 (x4_1 + 1))) else (earshotref03_Norm.l0 k1 l0 x3_1 (wrap64 (x4_1 + 1)))) = some r := H
          have A5 := Aside0.mk A50
          clear A50
          by_cases c6 : t116 > x3_1
          · rw [if_pos c6] at H
            have c6b0 : decide (x3_1 < t116) = true := decide_eq_true c6
            clear c6
            have H' := Aside0.mk H
            clear H
            have p114 : 0 ≤ (x4_1 : Int) := of_decide_eq_true (by first | (with_reducible assumption) | assumption)
            have q114 : x4_1 < (l0.length : Int) := of_decide_eq_true (by first | (with_reducible assumption) | assumption)
            obtain ⟨ad114, e114, hx114_0⟩ := Kd.at_int HR0.out x4_1 p114 q114
            cases e114
            replace p114 := eq_true p114
            replace q114 := eq_true q114
            go_wp2_with (first | ((with_reducible refine gate_callee (f := 35) rfl ?_); refine goesL_ (some 16) rfl rfl Try.func35 (by kernel_rfl) rfl #[.int .i64 (rd l0 x4_1)] rfl (by (try simp only [List.map_toArray, List.map_cons, List.map_nil]); first | done | rfl | (simp only [List.length_drop, List.length_take]; rfl)) ?_; (with_reducible refine (earshotref03_size.calls (rd l0 x4_1) t115 _ A4.out).mono ?_); rintro e w' ⟨rfl, ⟨nd, rfl⟩⟩; refine ⟨_, rfl, ?_⟩) | ((with_reducible refine gate_callee (f := 23) rfl ?_); refine goesL_ (some 17) rfl rfl Try.func23 (by kernel_rfl) rfl #[.int .u64 t115] rfl (by (try simp only [List.map_toArray, List.map_cons, List.map_nil]); first | done | rfl | (simp only [List.length_drop, List.length_take]; rfl)) ?_; (with_reducible refine (earshotref03_Bits.calls k1 t115 t116 _ A5.out).mono ?_); rintro e w' ⟨rfl, ⟨nd, rfl⟩⟩; refine ⟨_, rfl, ?_⟩))
            go_roundg k1
            case measure => have := HK1.out; omega
            case rel => exact ⟨(t116), (wrap64 (x4_1 + 1)), (by first | rfl | (simp; done) | (simp [*]; done)), (by first | rfl | (simp; done) | (simp [*]; done)), H', ⟨by have := HK1.out; omega⟩, by repeat (first | exact Drawn0.refl _ | apply Drawn0.step)⟩
          · rw [if_neg c6] at H
            have c6b0 : decide (x3_1 < t116) = false := decide_eq_false c6
            clear c6
            have H' := Aside0.mk H
            clear H
            have p114 : 0 ≤ (x4_1 : Int) := of_decide_eq_true (by first | (with_reducible assumption) | assumption)
            have q114 : x4_1 < (l0.length : Int) := of_decide_eq_true (by first | (with_reducible assumption) | assumption)
            obtain ⟨ad114, e114, hx114_0⟩ := Kd.at_int HR0.out x4_1 p114 q114
            cases e114
            replace p114 := eq_true p114
            replace q114 := eq_true q114
            go_wp2_with (first | ((with_reducible refine gate_callee (f := 35) rfl ?_); refine goesL_ (some 16) rfl rfl Try.func35 (by kernel_rfl) rfl #[.int .i64 (rd l0 x4_1)] rfl (by (try simp only [List.map_toArray, List.map_cons, List.map_nil]); first | done | rfl | (simp only [List.length_drop, List.length_take]; rfl)) ?_; (with_reducible refine (earshotref03_size.calls (rd l0 x4_1) t115 _ A4.out).mono ?_); rintro e w' ⟨rfl, ⟨nd, rfl⟩⟩; refine ⟨_, rfl, ?_⟩) | ((with_reducible refine gate_callee (f := 23) rfl ?_); refine goesL_ (some 17) rfl rfl Try.func23 (by kernel_rfl) rfl #[.int .u64 t115] rfl (by (try simp only [List.map_toArray, List.map_cons, List.map_nil]); first | done | rfl | (simp only [List.length_drop, List.length_take]; rfl)) ?_; (with_reducible refine (earshotref03_Bits.calls k1 t115 t116 _ A5.out).mono ?_); rintro e w' ⟨rfl, ⟨nd, rfl⟩⟩; refine ⟨_, rfl, ?_⟩))
            go_roundg k1
            case measure => have := HK1.out; omega
            case rel => exact ⟨(x3_1), (wrap64 (x4_1 + 1)), (by first | rfl | (simp; done) | (simp [*]; done)), (by first | rfl | (simp; done) | (simp [*]; done)), H', ⟨by have := HK1.out; omega⟩, by repeat (first | exact Drawn0.refl _ | apply Drawn0.step)⟩
        · rw [if_neg c3] at H
          exact absurd H (by simp)
      · rw [if_neg c2] at H
        have c2b0 : decide (x4_1 < (l0.length : Int)) = false := decide_eq_false c2
        clear c2
        obtain rfl := Option.some.inj H
        go_wp2
        go_ret
        exact ⟨by first | rfl | (simp; done) | (simp [*]; done), by repeat (first | exact Drawn0.refl _ | apply Drawn0.step)⟩

/-! ### earshotlaw03_LogsTell: function 8 -/
def earshotlaw03_LogsTell.f (k : Nat) (a0 : Int) (l1 : List Int) : Option (Bool) := (earshotlaw03_awake.f k).bind fun t117 => (if (l1.length : Int) > 40 then (if 40 ≤ (l1.length : Int) then (if t117 = true then ((logs_Bits.f a0).bind fun t119 => ((earshotref03_Bits.f k a0).bind fun t120 => (if t119 = t120 then ((logs_Log.f k a0).bind fun t121 => ((earshotref03_Log.f k a0).bind fun t122 => (if t121 = t122 then ((logs_Root.f a0).bind fun t123 => ((earshotref03_Root.f k a0).bind fun t124 => (if t123 = t124 then ((logs_Norm.f k (l1.take 40)).bind fun t125 => ((earshotref03_Norm.f k (l1.take 40)).bind fun t126 => (some (t125 == t126)))) else (some false)))) else (some false)))) else (some false)))) else (some false)) else (none)) else (if t117 = true then ((logs_Bits.f a0).bind fun t127 => ((earshotref03_Bits.f k a0).bind fun t128 => (if t127 = t128 then ((logs_Log.f k a0).bind fun t129 => ((earshotref03_Log.f k a0).bind fun t130 => (if t129 = t130 then ((logs_Root.f a0).bind fun t131 => ((earshotref03_Root.f k a0).bind fun t132 => (if t131 = t132 then ((logs_Norm.f k l1).bind fun t133 => ((earshotref03_Norm.f k l1).bind fun t134 => (some (t133 == t134)))) else (some false)))) else (some false)))) else (some false)))) else (some false)))
theorem earshotlaw03_LogsTell.mono : ∀ a0 a1 k, LeO (earshotlaw03_LogsTell.f k a0 a1) (earshotlaw03_LogsTell.f (k + 1) a0 a1) := by
  intro a0 a1 k
  unfold earshotlaw03_LogsTell.f
  repeat' first
      | (with_reducible exact earshotlaw03_awake.mono _)
      | (with_reducible exact earshotref03_Bits.mono _ _)
      | (with_reducible exact earshotref03_Log.mono _ _)
      | (with_reducible exact earshotref03_Norm.mono _ _)
      | (with_reducible exact earshotref03_Root.mono _ _)
      | (with_reducible exact logs_Log.mono _ _)
      | (with_reducible exact logs_Norm.mono _ _)
      | (with_reducible exact LeO.refl _)
      | (with_reducible exact LeO.none _)
      | (with_reducible refine LeO.ite ?_ ?_)
      | (with_reducible refine LeO.bind ?_ (fun _ => ?_))
      | exact earshotlaw03_awake.mono _
      | exact earshotref03_Bits.mono _ _
      | exact earshotref03_Log.mono _ _
      | exact earshotref03_Norm.mono _ _
      | exact earshotref03_Root.mono _ _
      | exact logs_Log.mono _ _
      | exact logs_Norm.mono _ _
      | exact LeO.none _
      | refine LeO.ite ?_ ?_
      | refine LeO.bind ?_ (fun _ => ?_)
set_option maxHeartbeats 8000000 in
set_option maxRecDepth 100000 in
theorem earshotlaw03_LogsTell.calls (k : Nat) (a0 : Int) (A1 : Option Addr) (c1 : Nat) (l1 : List Int) (r : Bool) (w : World) (hr1 : Kd.C (Kd.int .i64) w A1 l1.length l1) (hc1 : l1.length ≤ c1) (h : earshotlaw03_LogsTell.f k a0 l1 = some r) :
    Calls Try.prog 8 #[.int .u64 a0, .slice A1 l1.length c1] w fun e w' => e = .returned (.bool r) ∧ Below w.heap.size w w' := by
  have HR1 := Aside0.mk hr1
  have HC1 := Aside0.mk hc1
  clear hr1 hc1
  have HB := Aside0.mk (Below.refl w.heap.size w)
  have H : ((earshotlaw03_awake.f k).bind fun t117 => (if (l1.length : Int) > 40 then (if 40 ≤ (l1.length : Int) then (if t117 = true then ((logs_Bits.f a0).bind fun t119 => ((earshotref03_Bits.f k a0).bind fun t120 => (if t119 = t120 then ((logs_Log.f k a0).bind fun t121 => ((earshotref03_Log.f k a0).bind fun t122 => (if t121 = t122 then ((logs_Root.f a0).bind fun t123 => ((earshotref03_Root.f k a0).bind fun t124 => (if t123 = t124 then ((logs_Norm.f k (l1.take 40)).bind fun t125 => ((earshotref03_Norm.f k (l1.take 40)).bind fun t126 => (some (t125 == t126)))) else (some false)))) else (some false)))) else (some false)))) else (some false)) else (none)) else (if t117 = true then ((logs_Bits.f a0).bind fun t127 => ((earshotref03_Bits.f k a0).bind fun t128 => (if t127 = t128 then ((logs_Log.f k a0).bind fun t129 => ((earshotref03_Log.f k a0).bind fun t130 => (if t129 = t130 then ((logs_Root.f a0).bind fun t131 => ((earshotref03_Root.f k a0).bind fun t132 => (if t131 = t132 then ((logs_Norm.f k l1).bind fun t133 => ((earshotref03_Norm.f k l1).bind fun t134 => (some (t133 == t134)))) else (some false)))) else (some false)))) else (some false)))) else (some false)))) = some r := h
  clear h
  replace H := Option.bind_eq_some_iff.mp H
  obtain ⟨t117, A30, H⟩ := H
  replace H : (if (l1.length : Int) > 40 then (if 40 ≤ (l1.length : Int) then (if t117 = true then ((logs_Bits.f a0).bind fun t119 => ((earshotref03_Bits.f k a0).bind fun t120 => (if t119 = t120 then ((logs_Log.f k a0).bind fun t121 => ((earshotref03_Log.f k a0).bind fun t122 => (if t121 = t122 then ((logs_Root.f a0).bind fun t123 => ((earshotref03_Root.f k a0).bind fun t124 => (if t123 = t124 then ((logs_Norm.f k (l1.take 40)).bind fun t125 => ((earshotref03_Norm.f k (l1.take 40)).bind fun t126 => (some (t125 == t126)))) else (some false)))) else (some false)))) else (some false)))) else (some false)) else (none)) else (if t117 = true then ((logs_Bits.f a0).bind fun t127 => ((earshotref03_Bits.f k a0).bind fun t128 => (if t127 = t128 then ((logs_Log.f k a0).bind fun t129 => ((earshotref03_Log.f k a0).bind fun t130 => (if t129 = t130 then ((logs_Root.f a0).bind fun t131 => ((earshotref03_Root.f k a0).bind fun t132 => (if t131 = t132 then ((logs_Norm.f k l1).bind fun t133 => ((earshotref03_Norm.f k l1).bind fun t134 => (some (t133 == t134)))) else (some false)))) else (some false)))) else (some false)))) else (some false))) = some r := H
  have A3 := Aside0.mk A30
  clear A30
  by_cases c4 : (l1.length : Int) > 40
  · rw [if_pos c4] at H
    have c4b0 : decide (40 < (l1.length : Int)) = true := decide_eq_true c4
    have c4b1 : decide (40 < l1.length) = true := decide_eq_true (by omega)
    clear c4
    by_cases c5 : 40 ≤ (l1.length : Int)
    · rw [if_pos c5] at H
      have c5b0 := eq_true c5
      have c5b1 : decide (40 ≤ (l1.length : Int)) = true := decide_eq_true c5
      clear c5
      by_cases c6 : t117 = true
      · subst c6
        have H1 : ((logs_Bits.f a0).bind fun t119 => ((earshotref03_Bits.f k a0).bind fun t120 => (if t119 = t120 then ((logs_Log.f k a0).bind fun t121 => ((earshotref03_Log.f k a0).bind fun t122 => (if t121 = t122 then ((logs_Root.f a0).bind fun t123 => ((earshotref03_Root.f k a0).bind fun t124 => (if t123 = t124 then ((logs_Norm.f k (l1.take 40)).bind fun t125 => ((earshotref03_Norm.f k (l1.take 40)).bind fun t126 => (some (t125 == t126)))) else (some false)))) else (some false)))) else (some false)))) = some r := by rw [if_pos rfl] at H; exact H
        clear H
        have H := H1
        clear H1
        replace H := Option.bind_eq_some_iff.mp H
        obtain ⟨t119, A70, H⟩ := H
        replace H : ((earshotref03_Bits.f k a0).bind fun t120 => (if t119 = t120 then ((logs_Log.f k a0).bind fun t121 => ((earshotref03_Log.f k a0).bind fun t122 => (if t121 = t122 then ((logs_Root.f a0).bind fun t123 => ((earshotref03_Root.f k a0).bind fun t124 => (if t123 = t124 then ((logs_Norm.f k (l1.take 40)).bind fun t125 => ((earshotref03_Norm.f k (l1.take 40)).bind fun t126 => (some (t125 == t126)))) else (some false)))) else (some false)))) else (some false))) = some r := H
        have A7 := Aside0.mk A70
        clear A70
        replace H := Option.bind_eq_some_iff.mp H
        obtain ⟨t120, A80, H⟩ := H
        replace H : (if t119 = t120 then ((logs_Log.f k a0).bind fun t121 => ((earshotref03_Log.f k a0).bind fun t122 => (if t121 = t122 then ((logs_Root.f a0).bind fun t123 => ((earshotref03_Root.f k a0).bind fun t124 => (if t123 = t124 then ((logs_Norm.f k (l1.take 40)).bind fun t125 => ((earshotref03_Norm.f k (l1.take 40)).bind fun t126 => (some (t125 == t126)))) else (some false)))) else (some false)))) else (some false)) = some r := H
        have A8 := Aside0.mk A80
        clear A80
        by_cases c9 : t119 = t120
        · rw [if_pos c9] at H
          have c9b0 : (t119 == t120) = true := beq_iff_eq.mpr c9
          have c9b1 : (t119 != t120) = false := bne_eq_false_iff_eq.mpr c9
          clear c9
          replace H := Option.bind_eq_some_iff.mp H
          obtain ⟨t121, A100, H⟩ := H
          replace H : ((earshotref03_Log.f k a0).bind fun t122 => (if t121 = t122 then ((logs_Root.f a0).bind fun t123 => ((earshotref03_Root.f k a0).bind fun t124 => (if t123 = t124 then ((logs_Norm.f k (l1.take 40)).bind fun t125 => ((earshotref03_Norm.f k (l1.take 40)).bind fun t126 => (some (t125 == t126)))) else (some false)))) else (some false))) = some r := H
          have A10 := Aside0.mk A100
          clear A100
          replace H := Option.bind_eq_some_iff.mp H
          obtain ⟨t122, A110, H⟩ := H
          replace H : (if t121 = t122 then ((logs_Root.f a0).bind fun t123 => ((earshotref03_Root.f k a0).bind fun t124 => (if t123 = t124 then ((logs_Norm.f k (l1.take 40)).bind fun t125 => ((earshotref03_Norm.f k (l1.take 40)).bind fun t126 => (some (t125 == t126)))) else (some false)))) else (some false)) = some r := H
          have A11 := Aside0.mk A110
          clear A110
          by_cases c12 : t121 = t122
          · rw [if_pos c12] at H
            have c12b0 : (t121 == t122) = true := beq_iff_eq.mpr c12
            have c12b1 : (t121 != t122) = false := bne_eq_false_iff_eq.mpr c12
            clear c12
            replace H := Option.bind_eq_some_iff.mp H
            obtain ⟨t123, A130, H⟩ := H
            replace H : ((earshotref03_Root.f k a0).bind fun t124 => (if t123 = t124 then ((logs_Norm.f k (l1.take 40)).bind fun t125 => ((earshotref03_Norm.f k (l1.take 40)).bind fun t126 => (some (t125 == t126)))) else (some false))) = some r := H
            have A13 := Aside0.mk A130
            clear A130
            replace H := Option.bind_eq_some_iff.mp H
            obtain ⟨t124, A140, H⟩ := H
            replace H : (if t123 = t124 then ((logs_Norm.f k (l1.take 40)).bind fun t125 => ((earshotref03_Norm.f k (l1.take 40)).bind fun t126 => (some (t125 == t126)))) else (some false)) = some r := H
            have A14 := Aside0.mk A140
            clear A140
            by_cases c15 : t123 = t124
            · rw [if_pos c15] at H
              have c15b0 : (t123 == t124) = true := beq_iff_eq.mpr c15
              have c15b1 : (t123 != t124) = false := bne_eq_false_iff_eq.mpr c15
              clear c15
              replace H := Option.bind_eq_some_iff.mp H
              obtain ⟨t125, A160, H⟩ := H
              replace H : ((earshotref03_Norm.f k (l1.take 40)).bind fun t126 => (some (t125 == t126))) = some r := H
              have A16 := Aside0.mk A160
              clear A160
              replace H := Option.bind_eq_some_iff.mp H
              obtain ⟨t126, A170, H⟩ := H
              replace H : (some (t125 == t126)) = some r := H
              have A17 := Aside0.mk A170
              clear A170
              obtain rfl := Option.some.inj H
              go_enter Try.func8, Try.ntmps8
              go_wp2_with (first | ((with_reducible refine gate_callee (f := 21) rfl ?_); refine goesL_ (some 6) rfl rfl Try.func21 (by kernel_rfl) rfl #[] rfl (by (try simp only [List.map_toArray, List.map_cons, List.map_nil]); first | done | rfl | (simp only [List.length_drop, List.length_take]; rfl)) ?_; (with_reducible refine (earshotlaw03_awake.calls k  true _ A3.out).mono ?_); rintro e w18 ⟨rfl, hb⟩; refine ⟨_, rfl, ?_⟩; have n0_ := Aside0.mk (below_step (by repeat (first | (with_reducible first | exact HB.out | apply below_alloc | apply pw_below_drewN | apply below_drew1) | exact HB.out)) hb); clear HB; have HB := n0_; clear n0_; (try clear hb); (try clear hb2); (try clear hk); (try clear hi); obtain ⟨i019, hi019, _, hsz19, _⟩ := info_parts info3; obtain ⟨hcut19, hA19, hC19⟩ := print_take_of (P := Try.prog) (Value.int .i64) 0 38 3 .i64 Try.underlying38 hi019 hsz19 A1 c1 l1 40 (by omega) (of_decide_eq_true (by first | (with_reducible assumption) | assumption)) HC1.out; have HR118 := Aside0.mk (Kd.C_of_reads (h1 := fun _ => rfl) (hA19 _ (Kd.reads_of_C HR1.out))); have HC118 := Aside0.mk hC19; clear hA19 hC19 hi019 hsz19) | (go_at_call 22; (with_reducible refine (logs_Bits.calls a0 t119 _ A7.out).mono ?_); rintro e w' ⟨rfl, ⟨nd, rfl⟩⟩) | (go_at_call 23; (with_reducible refine (earshotref03_Bits.calls k a0 t120 _ A8.out).mono ?_); rintro e w' ⟨rfl, ⟨nd, rfl⟩⟩) | (go_at_call 24; (with_reducible refine (logs_Log.calls k a0 t121 _ A10.out).mono ?_); rintro e w' ⟨rfl, ⟨nd, rfl⟩⟩) | (go_at_call 25; (with_reducible refine (earshotref03_Log.calls k a0 t122 _ A11.out).mono ?_); rintro e w' ⟨rfl, ⟨nd, rfl⟩⟩) | (go_at_call 26; (with_reducible refine (logs_Root.calls a0 t123 _ A13.out).mono ?_); rintro e w20 ⟨rfl, hb⟩; have n0_ := Aside0.mk (below_step (by repeat (first | (with_reducible first | exact HB.out | apply below_alloc | apply pw_below_drewN | apply below_drew1) | exact HB.out)) hb); clear HB; have HB := n0_; clear n0_; (try clear hb); (try clear hb2); (try clear hk); (try clear hi)) | (go_at_call 27; (with_reducible refine (earshotref03_Root.calls k a0 t124 _ A14.out).mono ?_); rintro e w' ⟨rfl, ⟨nd, rfl⟩⟩) | (go_at_call 28; (try rw [← List.length_take]); (with_reducible refine (logs_Norm.calls k _ _ (l1.take 40) t125 _ ?side1 ?side2 A16.out).mono ?_); (case side1 => repeat (first | exact (Kd.C_below HR118.out (by repeat (first | (with_reducible first | exact HB.out | apply below_alloc | apply pw_below_drewN | apply below_drew1) | exact HB.out))) | (with_reducible refine Kd.C_alloc ?_ _) | (with_reducible refine Kd.C_drewN ?_ _) | (with_reducible refine Kd.C_drew ?_))); (case side2 => exact HC118.out); rintro e w' ⟨rfl, ⟨nd, rfl⟩⟩) | (go_at_call 29; (try rw [← List.length_take]); (with_reducible refine (earshotref03_Norm.calls k _ _ (l1.take 40) t126 _ ?side1 ?side2 A17.out).mono ?_); (case side1 => repeat (first | exact (Kd.C_below HR118.out (by repeat (first | (with_reducible first | exact HB.out | apply below_alloc | apply pw_below_drewN | apply below_drew1) | exact HB.out))) | (with_reducible refine Kd.C_alloc ?_ _) | (with_reducible refine Kd.C_drewN ?_ _) | (with_reducible refine Kd.C_drew ?_))); (case side2 => exact HC118.out); rintro e w' ⟨rfl, ⟨nd, rfl⟩⟩))
              go_ret
              exact ⟨by first | rfl | (simp [errW_none, errW_some] <;> rfl) | (simp [*, errW_none, errW_some] <;> rfl), by repeat (first | (with_reducible first | exact HB.out | apply below_alloc | apply pw_below_drewN | apply below_drew1) | exact HB.out)⟩
            · rw [if_neg c15] at H
              have c15b0 : (t123 == t124) = false := beq_eq_false_iff_ne.mpr c15
              have c15b1 : (t123 != t124) = true := bne_iff_ne.mpr c15
              obtain rfl := Option.some.inj H
              go_enter Try.func8, Try.ntmps8
              go_wp2_with (first | ((with_reducible refine gate_callee (f := 21) rfl ?_); refine goesL_ (some 6) rfl rfl Try.func21 (by kernel_rfl) rfl #[] rfl (by (try simp only [List.map_toArray, List.map_cons, List.map_nil]); first | done | rfl | (simp only [List.length_drop, List.length_take]; rfl)) ?_; (with_reducible refine (earshotlaw03_awake.calls k  true _ A3.out).mono ?_); rintro e w21 ⟨rfl, hb⟩; refine ⟨_, rfl, ?_⟩; have n0_ := Aside0.mk (below_step (by repeat (first | (with_reducible first | exact HB.out | apply below_alloc | apply pw_below_drewN | apply below_drew1) | exact HB.out)) hb); clear HB; have HB := n0_; clear n0_; (try clear hb); (try clear hb2); (try clear hk); (try clear hi); obtain ⟨i022, hi022, _, hsz22, _⟩ := info_parts info3; obtain ⟨hcut22, hA22, hC22⟩ := print_take_of (P := Try.prog) (Value.int .i64) 0 38 3 .i64 Try.underlying38 hi022 hsz22 A1 c1 l1 40 (by omega) (of_decide_eq_true (by first | (with_reducible assumption) | assumption)) HC1.out; have HR118 := Aside0.mk (Kd.C_of_reads (h1 := fun _ => rfl) (hA22 _ (Kd.reads_of_C HR1.out))); have HC118 := Aside0.mk hC22; clear hA22 hC22 hi022 hsz22) | (go_at_call 22; (with_reducible refine (logs_Bits.calls a0 t119 _ A7.out).mono ?_); rintro e w' ⟨rfl, ⟨nd, rfl⟩⟩) | (go_at_call 23; (with_reducible refine (earshotref03_Bits.calls k a0 t120 _ A8.out).mono ?_); rintro e w' ⟨rfl, ⟨nd, rfl⟩⟩) | (go_at_call 24; (with_reducible refine (logs_Log.calls k a0 t121 _ A10.out).mono ?_); rintro e w' ⟨rfl, ⟨nd, rfl⟩⟩) | (go_at_call 25; (with_reducible refine (earshotref03_Log.calls k a0 t122 _ A11.out).mono ?_); rintro e w' ⟨rfl, ⟨nd, rfl⟩⟩) | (go_at_call 26; (with_reducible refine (logs_Root.calls a0 t123 _ A13.out).mono ?_); rintro e w23 ⟨rfl, hb⟩; have n0_ := Aside0.mk (below_step (by repeat (first | (with_reducible first | exact HB.out | apply below_alloc | apply pw_below_drewN | apply below_drew1) | exact HB.out)) hb); clear HB; have HB := n0_; clear n0_; (try clear hb); (try clear hb2); (try clear hk); (try clear hi)) | (go_at_call 27; (with_reducible refine (earshotref03_Root.calls k a0 t124 _ A14.out).mono ?_); rintro e w' ⟨rfl, ⟨nd, rfl⟩⟩))
              go_ret
              exact ⟨by first | rfl | (simp [errW_none, errW_some] <;> rfl) | (simp [*, errW_none, errW_some] <;> rfl), by repeat (first | (with_reducible first | exact HB.out | apply below_alloc | apply pw_below_drewN | apply below_drew1) | exact HB.out)⟩
          · rw [if_neg c12] at H
            have c12b0 : (t121 == t122) = false := beq_eq_false_iff_ne.mpr c12
            have c12b1 : (t121 != t122) = true := bne_iff_ne.mpr c12
            obtain rfl := Option.some.inj H
            go_enter Try.func8, Try.ntmps8
            go_wp2_with (first | ((with_reducible refine gate_callee (f := 21) rfl ?_); refine goesL_ (some 6) rfl rfl Try.func21 (by kernel_rfl) rfl #[] rfl (by (try simp only [List.map_toArray, List.map_cons, List.map_nil]); first | done | rfl | (simp only [List.length_drop, List.length_take]; rfl)) ?_; (with_reducible refine (earshotlaw03_awake.calls k  true _ A3.out).mono ?_); rintro e w24 ⟨rfl, hb⟩; refine ⟨_, rfl, ?_⟩; have n0_ := Aside0.mk (below_step (by repeat (first | (with_reducible first | exact HB.out | apply below_alloc | apply pw_below_drewN | apply below_drew1) | exact HB.out)) hb); clear HB; have HB := n0_; clear n0_; (try clear hb); (try clear hb2); (try clear hk); (try clear hi); obtain ⟨i025, hi025, _, hsz25, _⟩ := info_parts info3; obtain ⟨hcut25, hA25, hC25⟩ := print_take_of (P := Try.prog) (Value.int .i64) 0 38 3 .i64 Try.underlying38 hi025 hsz25 A1 c1 l1 40 (by omega) (of_decide_eq_true (by first | (with_reducible assumption) | assumption)) HC1.out; have HR118 := Aside0.mk (Kd.C_of_reads (h1 := fun _ => rfl) (hA25 _ (Kd.reads_of_C HR1.out))); have HC118 := Aside0.mk hC25; clear hA25 hC25 hi025 hsz25) | (go_at_call 22; (with_reducible refine (logs_Bits.calls a0 t119 _ A7.out).mono ?_); rintro e w' ⟨rfl, ⟨nd, rfl⟩⟩) | (go_at_call 23; (with_reducible refine (earshotref03_Bits.calls k a0 t120 _ A8.out).mono ?_); rintro e w' ⟨rfl, ⟨nd, rfl⟩⟩) | (go_at_call 24; (with_reducible refine (logs_Log.calls k a0 t121 _ A10.out).mono ?_); rintro e w' ⟨rfl, ⟨nd, rfl⟩⟩) | (go_at_call 25; (with_reducible refine (earshotref03_Log.calls k a0 t122 _ A11.out).mono ?_); rintro e w' ⟨rfl, ⟨nd, rfl⟩⟩))
            go_ret
            exact ⟨by first | rfl | (simp [errW_none, errW_some] <;> rfl) | (simp [*, errW_none, errW_some] <;> rfl), by repeat (first | (with_reducible first | exact HB.out | apply below_alloc | apply pw_below_drewN | apply below_drew1) | exact HB.out)⟩
        · rw [if_neg c9] at H
          have c9b0 : (t119 == t120) = false := beq_eq_false_iff_ne.mpr c9
          have c9b1 : (t119 != t120) = true := bne_iff_ne.mpr c9
          obtain rfl := Option.some.inj H
          go_enter Try.func8, Try.ntmps8
          go_wp2_with (first | ((with_reducible refine gate_callee (f := 21) rfl ?_); refine goesL_ (some 6) rfl rfl Try.func21 (by kernel_rfl) rfl #[] rfl (by (try simp only [List.map_toArray, List.map_cons, List.map_nil]); first | done | rfl | (simp only [List.length_drop, List.length_take]; rfl)) ?_; (with_reducible refine (earshotlaw03_awake.calls k  true _ A3.out).mono ?_); rintro e w26 ⟨rfl, hb⟩; refine ⟨_, rfl, ?_⟩; have n0_ := Aside0.mk (below_step (by repeat (first | (with_reducible first | exact HB.out | apply below_alloc | apply pw_below_drewN | apply below_drew1) | exact HB.out)) hb); clear HB; have HB := n0_; clear n0_; (try clear hb); (try clear hb2); (try clear hk); (try clear hi); obtain ⟨i027, hi027, _, hsz27, _⟩ := info_parts info3; obtain ⟨hcut27, hA27, hC27⟩ := print_take_of (P := Try.prog) (Value.int .i64) 0 38 3 .i64 Try.underlying38 hi027 hsz27 A1 c1 l1 40 (by omega) (of_decide_eq_true (by first | (with_reducible assumption) | assumption)) HC1.out; have HR118 := Aside0.mk (Kd.C_of_reads (h1 := fun _ => rfl) (hA27 _ (Kd.reads_of_C HR1.out))); have HC118 := Aside0.mk hC27; clear hA27 hC27 hi027 hsz27) | (go_at_call 22; (with_reducible refine (logs_Bits.calls a0 t119 _ A7.out).mono ?_); rintro e w' ⟨rfl, ⟨nd, rfl⟩⟩) | (go_at_call 23; (with_reducible refine (earshotref03_Bits.calls k a0 t120 _ A8.out).mono ?_); rintro e w' ⟨rfl, ⟨nd, rfl⟩⟩))
          go_ret
          exact ⟨by first | rfl | (simp [errW_none, errW_some] <;> rfl) | (simp [*, errW_none, errW_some] <;> rfl), by repeat (first | (with_reducible first | exact HB.out | apply below_alloc | apply pw_below_drewN | apply below_drew1) | exact HB.out)⟩
      · replace c6 := Bool.eq_false_iff.mpr c6
        subst c6
        have H1 : (some false) = some r := by rw [if_neg (show ¬ (false = true) by decide)] at H; exact H
        clear H
        have H := H1
        clear H1
        obtain rfl := Option.some.inj H
        go_enter Try.func8, Try.ntmps8
        go_wp2_with (first | ((with_reducible refine gate_callee (f := 21) rfl ?_); refine goesL_ (some 6) rfl rfl Try.func21 (by kernel_rfl) rfl #[] rfl (by (try simp only [List.map_toArray, List.map_cons, List.map_nil]); first | done | rfl | (simp only [List.length_drop, List.length_take]; rfl)) ?_; (with_reducible refine (earshotlaw03_awake.calls k  false _ A3.out).mono ?_); rintro e w28 ⟨rfl, hb⟩; refine ⟨_, rfl, ?_⟩; have n0_ := Aside0.mk (below_step (by repeat (first | (with_reducible first | exact HB.out | apply below_alloc | apply pw_below_drewN | apply below_drew1) | exact HB.out)) hb); clear HB; have HB := n0_; clear n0_; (try clear hb); (try clear hb2); (try clear hk); (try clear hi); obtain ⟨i029, hi029, _, hsz29, _⟩ := info_parts info3; obtain ⟨hcut29, hA29, hC29⟩ := print_take_of (P := Try.prog) (Value.int .i64) 0 38 3 .i64 Try.underlying38 hi029 hsz29 A1 c1 l1 40 (by omega) (of_decide_eq_true (by first | (with_reducible assumption) | assumption)) HC1.out; have HR118 := Aside0.mk (Kd.C_of_reads (h1 := fun _ => rfl) (hA29 _ (Kd.reads_of_C HR1.out))); have HC118 := Aside0.mk hC29; clear hA29 hC29 hi029 hsz29))
        go_ret
        exact ⟨by first | rfl | (simp [errW_none, errW_some] <;> rfl) | (simp [*, errW_none, errW_some] <;> rfl), by repeat (first | (with_reducible first | exact HB.out | apply below_alloc | apply pw_below_drewN | apply below_drew1) | exact HB.out)⟩
    · rw [if_neg c5] at H
      exact absurd H (by simp)
  · rw [if_neg c4] at H
    have c4b0 : decide (40 < (l1.length : Int)) = false := decide_eq_false c4
    have c4b1 : decide (40 < l1.length) = false := decide_eq_false (by omega)
    clear c4
    by_cases c30 : t117 = true
    · subst c30
      have H1 : ((logs_Bits.f a0).bind fun t127 => ((earshotref03_Bits.f k a0).bind fun t128 => (if t127 = t128 then ((logs_Log.f k a0).bind fun t129 => ((earshotref03_Log.f k a0).bind fun t130 => (if t129 = t130 then ((logs_Root.f a0).bind fun t131 => ((earshotref03_Root.f k a0).bind fun t132 => (if t131 = t132 then ((logs_Norm.f k l1).bind fun t133 => ((earshotref03_Norm.f k l1).bind fun t134 => (some (t133 == t134)))) else (some false)))) else (some false)))) else (some false)))) = some r := by rw [if_pos rfl] at H; exact H
      clear H
      have H := H1
      clear H1
      replace H := Option.bind_eq_some_iff.mp H
      obtain ⟨t127, A310, H⟩ := H
      replace H : ((earshotref03_Bits.f k a0).bind fun t128 => (if t127 = t128 then ((logs_Log.f k a0).bind fun t129 => ((earshotref03_Log.f k a0).bind fun t130 => (if t129 = t130 then ((logs_Root.f a0).bind fun t131 => ((earshotref03_Root.f k a0).bind fun t132 => (if t131 = t132 then ((logs_Norm.f k l1).bind fun t133 => ((earshotref03_Norm.f k l1).bind fun t134 => (some (t133 == t134)))) else (some false)))) else (some false)))) else (some false))) = some r := H
      have A31 := Aside0.mk A310
      clear A310
      replace H := Option.bind_eq_some_iff.mp H
      obtain ⟨t128, A320, H⟩ := H
      replace H : (if t127 = t128 then ((logs_Log.f k a0).bind fun t129 => ((earshotref03_Log.f k a0).bind fun t130 => (if t129 = t130 then ((logs_Root.f a0).bind fun t131 => ((earshotref03_Root.f k a0).bind fun t132 => (if t131 = t132 then ((logs_Norm.f k l1).bind fun t133 => ((earshotref03_Norm.f k l1).bind fun t134 => (some (t133 == t134)))) else (some false)))) else (some false)))) else (some false)) = some r := H
      have A32 := Aside0.mk A320
      clear A320
      by_cases c33 : t127 = t128
      · rw [if_pos c33] at H
        have c33b0 : (t127 == t128) = true := beq_iff_eq.mpr c33
        have c33b1 : (t127 != t128) = false := bne_eq_false_iff_eq.mpr c33
        clear c33
        replace H := Option.bind_eq_some_iff.mp H
        obtain ⟨t129, A340, H⟩ := H
        replace H : ((earshotref03_Log.f k a0).bind fun t130 => (if t129 = t130 then ((logs_Root.f a0).bind fun t131 => ((earshotref03_Root.f k a0).bind fun t132 => (if t131 = t132 then ((logs_Norm.f k l1).bind fun t133 => ((earshotref03_Norm.f k l1).bind fun t134 => (some (t133 == t134)))) else (some false)))) else (some false))) = some r := H
        have A34 := Aside0.mk A340
        clear A340
        replace H := Option.bind_eq_some_iff.mp H
        obtain ⟨t130, A350, H⟩ := H
        replace H : (if t129 = t130 then ((logs_Root.f a0).bind fun t131 => ((earshotref03_Root.f k a0).bind fun t132 => (if t131 = t132 then ((logs_Norm.f k l1).bind fun t133 => ((earshotref03_Norm.f k l1).bind fun t134 => (some (t133 == t134)))) else (some false)))) else (some false)) = some r := H
        have A35 := Aside0.mk A350
        clear A350
        by_cases c36 : t129 = t130
        · rw [if_pos c36] at H
          have c36b0 : (t129 == t130) = true := beq_iff_eq.mpr c36
          have c36b1 : (t129 != t130) = false := bne_eq_false_iff_eq.mpr c36
          clear c36
          replace H := Option.bind_eq_some_iff.mp H
          obtain ⟨t131, A370, H⟩ := H
          replace H : ((earshotref03_Root.f k a0).bind fun t132 => (if t131 = t132 then ((logs_Norm.f k l1).bind fun t133 => ((earshotref03_Norm.f k l1).bind fun t134 => (some (t133 == t134)))) else (some false))) = some r := H
          have A37 := Aside0.mk A370
          clear A370
          replace H := Option.bind_eq_some_iff.mp H
          obtain ⟨t132, A380, H⟩ := H
          replace H : (if t131 = t132 then ((logs_Norm.f k l1).bind fun t133 => ((earshotref03_Norm.f k l1).bind fun t134 => (some (t133 == t134)))) else (some false)) = some r := H
          have A38 := Aside0.mk A380
          clear A380
          by_cases c39 : t131 = t132
          · rw [if_pos c39] at H
            have c39b0 : (t131 == t132) = true := beq_iff_eq.mpr c39
            have c39b1 : (t131 != t132) = false := bne_eq_false_iff_eq.mpr c39
            clear c39
            replace H := Option.bind_eq_some_iff.mp H
            obtain ⟨t133, A400, H⟩ := H
            replace H : ((earshotref03_Norm.f k l1).bind fun t134 => (some (t133 == t134))) = some r := H
            have A40 := Aside0.mk A400
            clear A400
            replace H := Option.bind_eq_some_iff.mp H
            obtain ⟨t134, A410, H⟩ := H
            replace H : (some (t133 == t134)) = some r := H
            have A41 := Aside0.mk A410
            clear A410
            obtain rfl := Option.some.inj H
            go_enter Try.func8, Try.ntmps8
            go_wp2_with (first | ((with_reducible refine gate_callee (f := 21) rfl ?_); refine goesL_ (some 6) rfl rfl Try.func21 (by kernel_rfl) rfl #[] rfl (by (try simp only [List.map_toArray, List.map_cons, List.map_nil]); first | done | rfl | (simp only [List.length_drop, List.length_take]; rfl)) ?_; (with_reducible refine (earshotlaw03_awake.calls k  true _ A3.out).mono ?_); rintro e w42 ⟨rfl, hb⟩; refine ⟨_, rfl, ?_⟩; have n0_ := Aside0.mk (below_step (by repeat (first | (with_reducible first | exact HB.out | apply below_alloc | apply pw_below_drewN | apply below_drew1) | exact HB.out)) hb); clear HB; have HB := n0_; clear n0_; (try clear hb); (try clear hb2); (try clear hk); (try clear hi)) | (go_at_call 22; (with_reducible refine (logs_Bits.calls a0 t127 _ A31.out).mono ?_); rintro e w' ⟨rfl, ⟨nd, rfl⟩⟩) | (go_at_call 23; (with_reducible refine (earshotref03_Bits.calls k a0 t128 _ A32.out).mono ?_); rintro e w' ⟨rfl, ⟨nd, rfl⟩⟩) | (go_at_call 24; (with_reducible refine (logs_Log.calls k a0 t129 _ A34.out).mono ?_); rintro e w' ⟨rfl, ⟨nd, rfl⟩⟩) | (go_at_call 25; (with_reducible refine (earshotref03_Log.calls k a0 t130 _ A35.out).mono ?_); rintro e w' ⟨rfl, ⟨nd, rfl⟩⟩) | (go_at_call 26; (with_reducible refine (logs_Root.calls a0 t131 _ A37.out).mono ?_); rintro e w43 ⟨rfl, hb⟩; have n0_ := Aside0.mk (below_step (by repeat (first | (with_reducible first | exact HB.out | apply below_alloc | apply pw_below_drewN | apply below_drew1) | exact HB.out)) hb); clear HB; have HB := n0_; clear n0_; (try clear hb); (try clear hb2); (try clear hk); (try clear hi)) | (go_at_call 27; (with_reducible refine (earshotref03_Root.calls k a0 t132 _ A38.out).mono ?_); rintro e w' ⟨rfl, ⟨nd, rfl⟩⟩) | (go_at_call 28; (with_reducible refine (logs_Norm.calls k _ _ l1 t133 _ ?side1 ?side2 A40.out).mono ?_); (case side1 => repeat (first | exact (Kd.C_below HR1.out (by repeat (first | (with_reducible first | exact HB.out | apply below_alloc | apply pw_below_drewN | apply below_drew1) | exact HB.out))) | (with_reducible refine Kd.C_alloc ?_ _) | (with_reducible refine Kd.C_drewN ?_ _) | (with_reducible refine Kd.C_drew ?_))); (case side2 => exact HC1.out); rintro e w' ⟨rfl, ⟨nd, rfl⟩⟩) | (go_at_call 29; (with_reducible refine (earshotref03_Norm.calls k _ _ l1 t134 _ ?side1 ?side2 A41.out).mono ?_); (case side1 => repeat (first | exact (Kd.C_below HR1.out (by repeat (first | (with_reducible first | exact HB.out | apply below_alloc | apply pw_below_drewN | apply below_drew1) | exact HB.out))) | (with_reducible refine Kd.C_alloc ?_ _) | (with_reducible refine Kd.C_drewN ?_ _) | (with_reducible refine Kd.C_drew ?_))); (case side2 => exact HC1.out); rintro e w' ⟨rfl, ⟨nd, rfl⟩⟩))
            go_ret
            exact ⟨by first | rfl | (simp [errW_none, errW_some] <;> rfl) | (simp [*, errW_none, errW_some] <;> rfl), by repeat (first | (with_reducible first | exact HB.out | apply below_alloc | apply pw_below_drewN | apply below_drew1) | exact HB.out)⟩
          · rw [if_neg c39] at H
            have c39b0 : (t131 == t132) = false := beq_eq_false_iff_ne.mpr c39
            have c39b1 : (t131 != t132) = true := bne_iff_ne.mpr c39
            obtain rfl := Option.some.inj H
            go_enter Try.func8, Try.ntmps8
            go_wp2_with (first | ((with_reducible refine gate_callee (f := 21) rfl ?_); refine goesL_ (some 6) rfl rfl Try.func21 (by kernel_rfl) rfl #[] rfl (by (try simp only [List.map_toArray, List.map_cons, List.map_nil]); first | done | rfl | (simp only [List.length_drop, List.length_take]; rfl)) ?_; (with_reducible refine (earshotlaw03_awake.calls k  true _ A3.out).mono ?_); rintro e w44 ⟨rfl, hb⟩; refine ⟨_, rfl, ?_⟩; have n0_ := Aside0.mk (below_step (by repeat (first | (with_reducible first | exact HB.out | apply below_alloc | apply pw_below_drewN | apply below_drew1) | exact HB.out)) hb); clear HB; have HB := n0_; clear n0_; (try clear hb); (try clear hb2); (try clear hk); (try clear hi)) | (go_at_call 22; (with_reducible refine (logs_Bits.calls a0 t127 _ A31.out).mono ?_); rintro e w' ⟨rfl, ⟨nd, rfl⟩⟩) | (go_at_call 23; (with_reducible refine (earshotref03_Bits.calls k a0 t128 _ A32.out).mono ?_); rintro e w' ⟨rfl, ⟨nd, rfl⟩⟩) | (go_at_call 24; (with_reducible refine (logs_Log.calls k a0 t129 _ A34.out).mono ?_); rintro e w' ⟨rfl, ⟨nd, rfl⟩⟩) | (go_at_call 25; (with_reducible refine (earshotref03_Log.calls k a0 t130 _ A35.out).mono ?_); rintro e w' ⟨rfl, ⟨nd, rfl⟩⟩) | (go_at_call 26; (with_reducible refine (logs_Root.calls a0 t131 _ A37.out).mono ?_); rintro e w45 ⟨rfl, hb⟩; have n0_ := Aside0.mk (below_step (by repeat (first | (with_reducible first | exact HB.out | apply below_alloc | apply pw_below_drewN | apply below_drew1) | exact HB.out)) hb); clear HB; have HB := n0_; clear n0_; (try clear hb); (try clear hb2); (try clear hk); (try clear hi)) | (go_at_call 27; (with_reducible refine (earshotref03_Root.calls k a0 t132 _ A38.out).mono ?_); rintro e w' ⟨rfl, ⟨nd, rfl⟩⟩))
            go_ret
            exact ⟨by first | rfl | (simp [errW_none, errW_some] <;> rfl) | (simp [*, errW_none, errW_some] <;> rfl), by repeat (first | (with_reducible first | exact HB.out | apply below_alloc | apply pw_below_drewN | apply below_drew1) | exact HB.out)⟩
        · rw [if_neg c36] at H
          have c36b0 : (t129 == t130) = false := beq_eq_false_iff_ne.mpr c36
          have c36b1 : (t129 != t130) = true := bne_iff_ne.mpr c36
          obtain rfl := Option.some.inj H
          go_enter Try.func8, Try.ntmps8
          go_wp2_with (first | ((with_reducible refine gate_callee (f := 21) rfl ?_); refine goesL_ (some 6) rfl rfl Try.func21 (by kernel_rfl) rfl #[] rfl (by (try simp only [List.map_toArray, List.map_cons, List.map_nil]); first | done | rfl | (simp only [List.length_drop, List.length_take]; rfl)) ?_; (with_reducible refine (earshotlaw03_awake.calls k  true _ A3.out).mono ?_); rintro e w46 ⟨rfl, hb⟩; refine ⟨_, rfl, ?_⟩; have n0_ := Aside0.mk (below_step (by repeat (first | (with_reducible first | exact HB.out | apply below_alloc | apply pw_below_drewN | apply below_drew1) | exact HB.out)) hb); clear HB; have HB := n0_; clear n0_; (try clear hb); (try clear hb2); (try clear hk); (try clear hi)) | (go_at_call 22; (with_reducible refine (logs_Bits.calls a0 t127 _ A31.out).mono ?_); rintro e w' ⟨rfl, ⟨nd, rfl⟩⟩) | (go_at_call 23; (with_reducible refine (earshotref03_Bits.calls k a0 t128 _ A32.out).mono ?_); rintro e w' ⟨rfl, ⟨nd, rfl⟩⟩) | (go_at_call 24; (with_reducible refine (logs_Log.calls k a0 t129 _ A34.out).mono ?_); rintro e w' ⟨rfl, ⟨nd, rfl⟩⟩) | (go_at_call 25; (with_reducible refine (earshotref03_Log.calls k a0 t130 _ A35.out).mono ?_); rintro e w' ⟨rfl, ⟨nd, rfl⟩⟩))
          go_ret
          exact ⟨by first | rfl | (simp [errW_none, errW_some] <;> rfl) | (simp [*, errW_none, errW_some] <;> rfl), by repeat (first | (with_reducible first | exact HB.out | apply below_alloc | apply pw_below_drewN | apply below_drew1) | exact HB.out)⟩
      · rw [if_neg c33] at H
        have c33b0 : (t127 == t128) = false := beq_eq_false_iff_ne.mpr c33
        have c33b1 : (t127 != t128) = true := bne_iff_ne.mpr c33
        obtain rfl := Option.some.inj H
        go_enter Try.func8, Try.ntmps8
        go_wp2_with (first | ((with_reducible refine gate_callee (f := 21) rfl ?_); refine goesL_ (some 6) rfl rfl Try.func21 (by kernel_rfl) rfl #[] rfl (by (try simp only [List.map_toArray, List.map_cons, List.map_nil]); first | done | rfl | (simp only [List.length_drop, List.length_take]; rfl)) ?_; (with_reducible refine (earshotlaw03_awake.calls k  true _ A3.out).mono ?_); rintro e w47 ⟨rfl, hb⟩; refine ⟨_, rfl, ?_⟩; have n0_ := Aside0.mk (below_step (by repeat (first | (with_reducible first | exact HB.out | apply below_alloc | apply pw_below_drewN | apply below_drew1) | exact HB.out)) hb); clear HB; have HB := n0_; clear n0_; (try clear hb); (try clear hb2); (try clear hk); (try clear hi)) | (go_at_call 22; (with_reducible refine (logs_Bits.calls a0 t127 _ A31.out).mono ?_); rintro e w' ⟨rfl, ⟨nd, rfl⟩⟩) | (go_at_call 23; (with_reducible refine (earshotref03_Bits.calls k a0 t128 _ A32.out).mono ?_); rintro e w' ⟨rfl, ⟨nd, rfl⟩⟩))
        go_ret
        exact ⟨by first | rfl | (simp [errW_none, errW_some] <;> rfl) | (simp [*, errW_none, errW_some] <;> rfl), by repeat (first | (with_reducible first | exact HB.out | apply below_alloc | apply pw_below_drewN | apply below_drew1) | exact HB.out)⟩
    · replace c30 := Bool.eq_false_iff.mpr c30
      subst c30
      have H1 : (some false) = some r := by rw [if_neg (show ¬ (false = true) by decide)] at H; exact H
      clear H
      have H := H1
      clear H1
      obtain rfl := Option.some.inj H
      go_enter Try.func8, Try.ntmps8
      go_wp2_with (first | ((with_reducible refine gate_callee (f := 21) rfl ?_); refine goesL_ (some 6) rfl rfl Try.func21 (by kernel_rfl) rfl #[] rfl (by (try simp only [List.map_toArray, List.map_cons, List.map_nil]); first | done | rfl | (simp only [List.length_drop, List.length_take]; rfl)) ?_; (with_reducible refine (earshotlaw03_awake.calls k  false _ A3.out).mono ?_); rintro e w48 ⟨rfl, hb⟩; refine ⟨_, rfl, ?_⟩; have n0_ := Aside0.mk (below_step (by repeat (first | (with_reducible first | exact HB.out | apply below_alloc | apply pw_below_drewN | apply below_drew1) | exact HB.out)) hb); clear HB; have HB := n0_; clear n0_; (try clear hb); (try clear hb2); (try clear hk); (try clear hi)))
      go_ret
      exact ⟨by first | rfl | (simp [errW_none, errW_some] <;> rfl) | (simp [*, errW_none, errW_some] <;> rfl), by repeat (first | (with_reducible first | exact HB.out | apply below_alloc | apply pw_below_drewN | apply below_drew1) | exact HB.out)⟩

/-- THE ONE PURE STATEMENT of earshotlaw03_LogsTell: yours. -/
def earshotlaw03_LogsTell.Pure : Prop := ∀ (a0 : Int) (l1 : List Int), (Lit.int .u64 a0).wf = true → l1.length ≤ maxLen → l1.length * 8 ≤ 140737488351232 → (∀ x ∈ l1, (Lit.int .i64 x).wf = true) → ∃ k, earshotlaw03_LogsTell.f k a0 l1 = some true
theorem earshotlaw03_LogsTell.walk (P : earshotlaw03_LogsTell.Pure) (a0 : Int) (a1 : Option Addr) (len1 cap1 : Nat) (z1 : List Int) (w : World) (w0 : (Lit.int .u64 a0).wf = true) (w1 : (a1 = none ∧ len1 = 0 ∧ cap1 = 0 ∧ z1 = []) ∨ ∃ x, a1 = some x ∧ len1 ≤ cap1 ∧ cap1 ≤ maxLen ∧ z1.length = cap1 ∧ (∀ i, i < z1.length → w.cell? (x.add i) = some (.int .i64 (z1.getD i 0))) ∧ ∀ n ∈ z1, (Lit.int .i64 n).wf = true) (y1 : len1 * 8 ≤ 140737488351232) :
    Calls Try.prog 8 #[.int .u64 a0, .slice a1 len1 cap1] w fun e w' => e = .returned (.bool true) ∧ Below w.heap.size w w' := by
  obtain ⟨l1, rfl, hr1, hm1, hw1, hc1⟩ := ReadsInt.ofRowC w1
  obtain ⟨k, h⟩ := P a0 l1 w0 hm1 y1 hw1
  refine (earshotlaw03_LogsTell.calls k a0 _ _ l1 true w (Kd.C_of_reads (d := (0 : Int)) (h1 := fun _ => rfl) hr1) hc1 h).mono ?_
  rintro e w' ⟨rfl, hd⟩
  exact ⟨rfl, hd⟩

end Go.Proofs.Yteihjdpbahfnnaa.PLogsTell
