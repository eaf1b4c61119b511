-- Written by a program of this work (wip/tools) for this claim; Lean checks it.
import Derived.Test.YtohmecfjpmapnaaPMelSumsx0
namespace Go.Proofs.Ytohmecfjpmapnaa.PMelSums
open Go.RowKit Go.Proofs.YtohmecfjpmapnaaW.PrintWords Go.Proofs.YtohmecfjpmapnaaW.PrintLast Go.Proofs.YtohmecfjpmapnaaW.PrintMore
attribute [local go_sem] max2_int min2_int max_two min_two max_three min_three max_four min_four   -- for this text's walks alone
set_option linter.unusedVariables false
set_option linter.unusedSimpArgs false

/-! ### earshotref04_Same: function 9 -/
def earshotref04_Same.l0 : Nat → List Int → List Int → Int → Option (Bool)
  | 0, _, _, _ => none
  | k + 1, x0, x1, x5 => if x5 < (x0.length : Int) then (if 0 ≤ x5 then (if x5 < (x1.length : Int) then (if (rd x0 x5) = (rd x1 x5) then (earshotref04_Same.l0 k x0 x1 (wrap64 (x5 + 1))) else (some false)) else (none)) else (none)) else (some true)
def earshotref04_Same.f (k : Nat) (l0 : List Int) (l1 : List Int) : Option (Bool) := if (l0.length : Int) = (l1.length : Int) then (earshotref04_Same.l0 k l0 l1 0) else (some false)
theorem earshotref04_Same.mono_l : ∀ k, (∀ y0 y1 y2, LeO (earshotref04_Same.l0 k y0 y1 y2) (earshotref04_Same.l0 (k + 1) y0 y1 y2))
  | 0 => fun _ _ _ r h => by simp [earshotref04_Same.l0] at h
  | k + 1 => by
    have ih0 := earshotref04_Same.mono_l k
    · intro y0 y1 y2
      unfold earshotref04_Same.l0
      repeat' first
      | (with_reducible exact ih0 _ _ _)
      | (with_reducible exact LeO.refl _)
      | (with_reducible exact LeO.none _)
      | (with_reducible refine LeO.ite ?_ ?_)
      | (with_reducible refine LeO.bind ?_ (fun _ => ?_))
      | exact ih0 _ _ _
      | exact LeO.none _
      | refine LeO.ite ?_ ?_
      | refine LeO.bind ?_ (fun _ => ?_)
theorem earshotref04_Same.mono : ∀ a0 a1 k, LeO (earshotref04_Same.f k a0 a1) (earshotref04_Same.f (k + 1) a0 a1) := by
  intro a0 a1 k
  have ih0 := earshotref04_Same.mono_l k
  unfold earshotref04_Same.f
  repeat' first
      | (with_reducible exact ih0 _ _ _)
      | (with_reducible exact LeO.refl _)
      | (with_reducible exact LeO.none _)
      | (with_reducible refine LeO.ite ?_ ?_)
      | (with_reducible refine LeO.bind ?_ (fun _ => ?_))
      | exact ih0 _ _ _
      | exact LeO.none _
      | refine LeO.ite ?_ ?_
      | refine LeO.bind ?_ (fun _ => ?_)
set_option maxHeartbeats 8000000 in
set_option maxRecDepth 100000 in
theorem earshotref04_Same.calls (k : Nat) (A0 : Option Addr) (c0 : Nat) (l0 : List Int) (A1 : Option Addr) (c1 : Nat) (l1 : List Int) (r : Bool) (w : World) (hr0 : Kd.C (Kd.int .i64) w A0 l0.length l0) (hc0 : l0.length ≤ c0) (hr1 : Kd.C (Kd.int .i64) w A1 l1.length l1) (hc1 : l1.length ≤ c1) (h : earshotref04_Same.f k l0 l1 = some r) :
    Calls Try.prog 9 #[.slice A0 l0.length c0, .slice A1 l1.length c1] w fun e w' => e = .returned (.bool r) ∧ Drawn0 w w' := by
  have HR0 := Aside0.mk hr0
  have HC0 := Aside0.mk hc0
  clear hr0 hc0
  have HR1 := Aside0.mk hr1
  have HC1 := Aside0.mk hc1
  clear hr1 hc1
  have H : (if (l0.length : Int) = (l1.length : Int) then (earshotref04_Same.l0 k l0 l1 0) else (some false)) = some r := h
  clear h
  by_cases c3 : (l0.length : Int) = (l1.length : Int)
  · rw [if_pos c3] at H
    have c3b0 : ((l0.length : Int) == (l1.length : Int)) = true := beq_iff_eq.mpr c3
    have c3b1 : ((l0.length : Int) != (l1.length : Int)) = false := bne_eq_false_iff_eq.mpr c3
    have c3b2 : (l0.length == l1.length) = true := by first | simpa using c3 | (simp at c3 ⊢; omega)
    clear c3
    have H' := Aside0.mk H
    clear H
    go_enter Try.func9, Try.ntmps9
    go_wp2
    repeat (go_quiet (fail); try go_wp2)
    go_loopg [5] k (fun kq v5 w' => ∃ (x5_1 : Int), v5 = .int .i64 x5_1 ∧ Aside0 (earshotref04_Same.l0 kq l0 l1 x5_1 = some r) ∧ Aside0 (kq ≤ k) ∧ Drawn0 w w')
    case atStart => exact ⟨(0), (by first | rfl | (simp; done) | (simp [*]; done)), H', ⟨Nat.le_refl _⟩, by repeat (first | exact Drawn0.refl _ | apply Drawn0.step)⟩
    case round =>
      clear H'
      try clear c1
      try clear p2
      try clear c3
      try clear c3b0
      try clear c3b1
      try clear c3b2
      obtain ⟨x5_1, rfl, HA, HK1, ⟨m1, rfl⟩⟩ := hrel
      cases gk with
      | zero => exact absurd HA.out (by simp [earshotref04_Same.l0])
      | succ k1 =>
        have H := HA.out
        clear HA
        simp only [earshotref04_Same.l0] at H
        by_cases c4 : x5_1 < (l0.length : Int)
        · rw [if_pos c4] at H
          have c4b0 : decide (x5_1 < (l0.length : Int)) = true := decide_eq_true c4
          clear c4
          by_cases c5 : 0 ≤ x5_1
          · rw [if_pos c5] at H
            have c5b0 : decide (0 ≤ x5_1) = true := decide_eq_true c5
            clear c5
            by_cases c6 : x5_1 < (l1.length : Int)
            · rw [if_pos c6] at H
              have c6b0 : decide (x5_1 < (l1.length : Int)) = true := decide_eq_true c6
              clear c6
              by_cases c7 : (rd l0 x5_1) = (rd l1 x5_1)
              · rw [if_pos c7] at H
                have c7b0 : ((rd l0 x5_1) == (rd l1 x5_1)) = true := beq_iff_eq.mpr c7
                have c7b1 : ((rd l0 x5_1) != (rd l1 x5_1)) = false := bne_eq_false_iff_eq.mpr c7
                clear c7
                have H' := Aside0.mk H
                clear H
                have p101 : 0 ≤ (x5_1 : Int) := of_decide_eq_true (by first | (with_reducible assumption) | assumption)
                have q101 : x5_1 < (l0.length : Int) := of_decide_eq_true (by first | (with_reducible assumption) | assumption)
                obtain ⟨ad101, e101, hx101_0⟩ := Kd.at_int HR0.out x5_1 p101 q101
                cases e101
                replace p101 := eq_true p101
                replace q101 := eq_true q101
                have p102 : 0 ≤ (x5_1 : Int) := of_decide_eq_true (by first | (with_reducible assumption) | assumption)
                have q102 : x5_1 < (l1.length : Int) := of_decide_eq_true (by first | (with_reducible assumption) | assumption)
                obtain ⟨ad102, e102, hx102_0⟩ := Kd.at_int HR1.out x5_1 p102 q102
                cases e102
                replace p102 := eq_true p102
                replace q102 := eq_true q102
                go_wp2
                repeat (go_quiet (fail); try go_wp2)
                go_roundg k1
                case measure => have := HK1.out; omega
                case rel => exact ⟨(wrap64 (x5_1 + 1)), (by first | rfl | (simp; done) | (simp [*]; done)), H', ⟨by have := HK1.out; omega⟩, by repeat (first | exact Drawn0.refl _ | apply Drawn0.step)⟩
              · rw [if_neg c7] at H
                have c7b0 : ((rd l0 x5_1) == (rd l1 x5_1)) = false := beq_eq_false_iff_ne.mpr c7
                have c7b1 : ((rd l0 x5_1) != (rd l1 x5_1)) = true := bne_iff_ne.mpr c7
                obtain rfl := Option.some.inj H
                have p101 : 0 ≤ (x5_1 : Int) := of_decide_eq_true (by first | (with_reducible assumption) | assumption)
                have q101 : x5_1 < (l0.length : Int) := of_decide_eq_true (by first | (with_reducible assumption) | assumption)
                obtain ⟨ad101, e101, hx101_0⟩ := Kd.at_int HR0.out x5_1 p101 q101
                cases e101
                replace p101 := eq_true p101
                replace q101 := eq_true q101
                have p102 : 0 ≤ (x5_1 : Int) := of_decide_eq_true (by first | (with_reducible assumption) | assumption)
                have q102 : x5_1 < (l1.length : Int) := of_decide_eq_true (by first | (with_reducible assumption) | assumption)
                obtain ⟨ad102, e102, hx102_0⟩ := Kd.at_int HR1.out x5_1 p102 q102
                cases e102
                replace p102 := eq_true p102
                replace q102 := eq_true q102
                go_wp2
                repeat (go_quiet (fail); try go_wp2)
                go_ret
                exact ⟨by first | rfl | (simp; done) | (simp [*]; done), by repeat (first | exact Drawn0.refl _ | apply Drawn0.step)⟩
            · rw [if_neg c6] at H
              exact absurd H (by simp)
          · rw [if_neg c5] at H
            exact absurd H (by simp)
        · rw [if_neg c4] at H
          have c4b0 : decide (x5_1 < (l0.length : Int)) = false := decide_eq_false c4
          clear c4
          obtain rfl := Option.some.inj H
          go_wp2
          repeat (go_quiet (fail); try go_wp2)
          go_ret
          exact ⟨by first | rfl | (simp; done) | (simp [*]; done), by repeat (first | exact Drawn0.refl _ | apply Drawn0.step)⟩
  · rw [if_neg c3] at H
    have c3b0 : ((l0.length : Int) == (l1.length : Int)) = false := beq_eq_false_iff_ne.mpr c3
    have c3b1 : ((l0.length : Int) != (l1.length : Int)) = true := bne_iff_ne.mpr c3
    have c3b2 : (l0.length == l1.length) = false := by first | simpa using c3 | (simp at c3 ⊢; omega)
    obtain rfl := Option.some.inj H
    go_enter Try.func9, Try.ntmps9
    go_wp2
    repeat (go_quiet (fail); try go_wp2)
    go_ret
    exact ⟨by first | rfl | (simp; done) | (simp [*]; done), by repeat (first | exact Drawn0.refl _ | apply Drawn0.step)⟩

/-! ### bits_Len64: function 27 -/
def bits_Len64.f (a0 : Int) : Option (Int) := if 0 ≤ a0 then (if a0 < 18446744073709551616 then (some ((Lib.bitLen a0.toNat : Nat) : Int)) else (none)) else (none)
theorem bits_Len64.calls (a0 : Int) (r : Int) (w : World) (h : bits_Len64.f a0 = some r) :
    Calls Try.prog 27 #[.int .u64 a0] w fun e w' => e = .returned (.int .i64 r) ∧ Drawn0 w w' := by
  unfold bits_Len64.f at h
  split at h
  · rename_i h0
    split at h
    · rename_i h1
      obtain rfl := Option.some.inj h
      refine (len64_any a0 w h0 (by omega)).mono ?_
      rintro e w' ⟨rfl, rfl⟩
      exact ⟨rfl, Drawn0.refl _⟩
    · cases h
  · cases h

/-! ### logs_Bits: function 25 -/
def logs_Bits.f (a0 : Int) : Option (Int) := (bits_Len64.f a0).bind fun t103 => (some t103)
set_option maxHeartbeats 8000000 in
set_option maxRecDepth 100000 in
theorem logs_Bits.calls (a0 : Int) (r : Int) (w : World) (h : logs_Bits.f a0 = some r) :
    Calls Try.prog 25 #[.int .u64 a0] w fun e w' => e = .returned (.int .i64 r) ∧ Drawn0 w w' := by
  have H : ((bits_Len64.f a0).bind fun t103 => (some t103)) = some r := h
  clear h
  replace H := Option.bind_eq_some_iff.mp H
  obtain ⟨t103, A20, H⟩ := H
  replace H : (some t103) = some r := H
  have A2 := Aside0.mk A20
  clear A20
  obtain rfl := Option.some.inj H
  go_enter Try.func25, Try.ntmps25
  go_wp2_with (first | ((with_reducible refine gate_callee (f := 27) rfl ?_); refine goesL_ (some 4) rfl rfl Try.func27 (by kernel_rfl) rfl #[.int .u64 a0] rfl (by (try simp only [List.map_toArray, List.map_cons, List.map_nil]); first | done | rfl | (simp only [List.length_drop, List.length_take]; rfl)) ?_; (with_reducible refine (bits_Len64.calls a0 t103 _ A2.out).mono ?_); rintro e w' ⟨rfl, ⟨nd, rfl⟩⟩; refine ⟨_, rfl, ?_⟩))
  go_ret
  exact ⟨by first | rfl | (simp; done) | (simp [*]; done), by repeat (first | exact Drawn0.refl _ | apply Drawn0.step)⟩

/-! ### logs_Log: function 19 -/
def logs_Log.l0 : Nat → Int → Int → Int → Option (Int)
  | 0, _, _, _ => none
  | k + 1, x4, x5, x18 => if x18 < 8 then (if 0 ≤ (((IntKind.u64.wrap (x4 * x4)) / 2147483648) / 4294967296) then (logs_Log.l0 k (shr .u64 ((IntKind.u64.wrap (x4 * x4)) / 2147483648) (((IntKind.u64.wrap (x4 * x4)) / 2147483648) / 4294967296)) (Go.bits .or .i64 (wrap64 (x5 * 2)) (wrap64 (((IntKind.u64.wrap (x4 * x4)) / 2147483648) / 4294967296))) (wrap64 (x18 + 1))) else (none)) else (some x5)
def logs_Log.f (k : Nat) (a0 : Int) : Option (Int) := if a0 = 0 then (some 0) else ((logs_Bits.f a0).bind fun t104 => (if 0 ≤ (wrap64 (63 - (wrap64 (t104 - 1)))) then (logs_Log.l0 k ((shl .u64 a0 (wrap64 (63 - (wrap64 (t104 - 1))))) / 4294967296) (wrap64 (t104 - 1)) 0) else (none)))
theorem logs_Log.mono_l : ∀ k, (∀ y0 y1 y2, LeO (logs_Log.l0 k y0 y1 y2) (logs_Log.l0 (k + 1) y0 y1 y2))
  | 0 => fun _ _ _ r h => by simp [logs_Log.l0] at h
  | k + 1 => by
    have ih0 := logs_Log.mono_l k
    · intro y0 y1 y2
      unfold logs_Log.l0
      repeat' first
      | (with_reducible exact ih0 _ _ _)
      | (with_reducible exact LeO.refl _)
      | (with_reducible exact LeO.none _)
      | (with_reducible refine LeO.ite ?_ ?_)
      | (with_reducible refine LeO.bind ?_ (fun _ => ?_))
      | exact ih0 _ _ _
      | exact LeO.none _
      | refine LeO.ite ?_ ?_
      | refine LeO.bind ?_ (fun _ => ?_)
theorem logs_Log.mono : ∀ a0 k, LeO (logs_Log.f k a0) (logs_Log.f (k + 1) a0) := by
  intro a0 k
  have ih0 := logs_Log.mono_l k
  unfold logs_Log.f
  repeat' first
      | (with_reducible exact ih0 _ _ _)
      | (with_reducible exact LeO.refl _)
      | (with_reducible exact LeO.none _)
      | (with_reducible refine LeO.ite ?_ ?_)
      | (with_reducible refine LeO.bind ?_ (fun _ => ?_))
      | exact ih0 _ _ _
      | exact LeO.none _
      | refine LeO.ite ?_ ?_
      | refine LeO.bind ?_ (fun _ => ?_)
set_option maxHeartbeats 8000000 in
set_option maxRecDepth 100000 in
theorem logs_Log.calls (k : Nat) (a0 : Int) (r : Int) (w : World) (h : logs_Log.f k a0 = some r) :
    Calls Try.prog 19 #[.int .u64 a0] w fun e w' => e = .returned (.int .i64 r) ∧ Drawn0 w w' := by
  have H : (if a0 = 0 then (some 0) else ((logs_Bits.f a0).bind fun t104 => (if 0 ≤ (wrap64 (63 - (wrap64 (t104 - 1)))) then (logs_Log.l0 k ((shl .u64 a0 (wrap64 (63 - (wrap64 (t104 - 1))))) / 4294967296) (wrap64 (t104 - 1)) 0) else (none)))) = some r := h
  clear h
  by_cases c2 : a0 = 0
  · rw [if_pos c2] at H
    have c2b0 : (a0 == 0) = true := beq_iff_eq.mpr c2
    have c2b1 : (a0 != 0) = false := bne_eq_false_iff_eq.mpr c2
    clear c2
    obtain rfl := Option.some.inj H
    go_enter Try.func19, Try.ntmps19
    go_wp2
    go_ret
    exact ⟨by first | rfl | (simp; done) | (simp [*]; done), by repeat (first | exact Drawn0.refl _ | apply Drawn0.step)⟩
  · rw [if_neg c2] at H
    have c2b0 : (a0 == 0) = false := beq_eq_false_iff_ne.mpr c2
    have c2b1 : (a0 != 0) = true := bne_iff_ne.mpr c2
    replace H := Option.bind_eq_some_iff.mp H
    obtain ⟨t104, A30, H⟩ := H
    replace H : (if 0 ≤ (wrap64 (63 - (wrap64 (t104 - 1)))) then (logs_Log.l0 k ((shl .u64 a0 (wrap64 (63 - (wrap64 (t104 - 1))))) / 4294967296) (wrap64 (t104 - 1)) 0) else (none)) = some r := H
    have A3 := Aside0.mk A30
    clear A30
    obtain ⟨ji4, hji4⟩ : ∃ j_ : Int, (wrap64 (63 - (wrap64 (t104 - 1)))) = j_ := ⟨_, rfl⟩
    replace H : (if 0 ≤ (ji4) then (logs_Log.l0 k ((shl .u64 a0 (ji4)) / 4294967296) (wrap64 (t104 - 1)) 0) else (none)) = some r := by first | (rw [hji4] at H; exact H) | (simp only [hji4] at H ⊢; exact H)
    (try rw [hji4] at A3)
    have hji4w : (IntKind.i64.wrap (63 - (wrap64 (t104 - 1)))) = ji4 := (i64_w _).trans hji4
    by_cases c5 : 0 ≤ (ji4)
    · rw [if_pos c5] at H
      have c5b0 := eq_true c5
      have c5b1 : decide (0 ≤ (ji4)) = true := decide_eq_true c5
      clear c5
      obtain ⟨ji6, hji6⟩ : ∃ j_ : Int, (shl .u64 a0 (ji4)) = j_ := ⟨_, rfl⟩
      replace H : (logs_Log.l0 k ((ji6) / 4294967296) (wrap64 (t104 - 1)) 0) = some r := by first | (rw [hji6] at H; exact H) | (simp only [hji6] at H ⊢; exact H)
      (try rw [hji6] at A3)
      have hji6_ : (IntKind.u64.wrap (a0 * 2 ^ min (ji4).toNat 64)) = ji6 := hji6
      have hji6z : (ji4) ≤ 64 → (IntKind.u64.wrap (a0 * 2 ^ (ji4).toNat)) = ji6 := shl_small hji6
      have H' := Aside0.mk H
      clear H
      go_enter Try.func19, Try.ntmps19
      go_wp2_with (first | ((with_reducible refine gate_callee (f := 25) rfl ?_); refine goesL_ (some 10) rfl rfl Try.func25 (by kernel_rfl) rfl #[.int .u64 a0] rfl (by (try simp only [List.map_toArray, List.map_cons, List.map_nil]); first | done | rfl | (simp only [List.length_drop, List.length_take]; rfl)) ?_; (with_reducible refine (logs_Bits.calls a0 t104 _ A3.out).mono ?_); rintro e w' ⟨rfl, ⟨nd, rfl⟩⟩; refine ⟨_, rfl, ?_⟩))
      go_loopg [4, 5, 18] k (fun kq v4 v5 v18 w' => ∃ (x4_1 : Int) (x5_1 : Int) (x18_1 : Int), v4 = .int .u64 x4_1 ∧ v5 = .int .i64 x5_1 ∧ v18 = .int .i64 x18_1 ∧ Aside0 (logs_Log.l0 kq x4_1 x5_1 x18_1 = some r) ∧ Aside0 (kq ≤ k) ∧ Drawn0 w w')
      case atStart => exact ⟨((ji6) / 4294967296), (wrap64 (t104 - 1)), (0), (by first | rfl | (simp; done) | (simp only [← hji6] <;> (first | rfl | simp)) | (simp [*]; done)), (by first | rfl | (simp; done) | (simp [*]; done)), (by first | rfl | (simp; done) | (simp [*]; done)), H', ⟨Nat.le_refl _⟩, by repeat (first | exact Drawn0.refl _ | apply Drawn0.step)⟩
      case round =>
        clear H'
        try clear c1
        try clear c2
        try clear c2b0
        try clear c2b1
        try clear p2
        try clear c5
        try clear c5b0
        try clear c5b1
        try clear p6
        obtain ⟨x4_1, x5_1, x18_1, rfl, rfl, rfl, HA, HK1, ⟨m1, rfl⟩⟩ := hrel
        cases gk with
        | zero => exact absurd HA.out (by simp [logs_Log.l0])
        | succ k1 =>
          have H := HA.out
          clear HA
          simp only [logs_Log.l0] at H
          by_cases c7 : x18_1 < 8
          · rw [if_pos c7] at H
            have c7b0 : decide (x18_1 < 8) = true := decide_eq_true c7
            clear c7
            obtain ⟨ji8, hji8⟩ : ∃ j_ : Int, (((IntKind.u64.wrap (x4_1 * x4_1)) / 2147483648) / 4294967296) = j_ := ⟨_, rfl⟩
            replace H : (if 0 ≤ (ji8) then (logs_Log.l0 k1 (shr .u64 ((IntKind.u64.wrap (x4_1 * x4_1)) / 2147483648) (ji8)) (Go.bits .or .i64 (wrap64 (x5_1 * 2)) (wrap64 (ji8))) (wrap64 (x18_1 + 1))) else (none)) = some r := by first | (rw [hji8] at H; exact H) | (simp only [hji8] at H ⊢; exact H)
            by_cases c9 : 0 ≤ (ji8)
            · rw [if_pos c9] at H
              have c9b0 := eq_true c9
              have c9b1 : decide (0 ≤ (ji8)) = true := decide_eq_true c9
              clear c9
              obtain ⟨ji10, hji10⟩ : ∃ j_ : Int, (shr .u64 ((IntKind.u64.wrap (x4_1 * x4_1)) / 2147483648) (ji8)) = j_ := ⟨_, rfl⟩
              replace H : (logs_Log.l0 k1 ji10 (Go.bits .or .i64 (wrap64 (x5_1 * 2)) (wrap64 (ji8))) (wrap64 (x18_1 + 1))) = some r := by first | (rw [hji10] at H; exact H) | (simp only [hji10] at H ⊢; exact H)
              have hji10_ : (((IntKind.u64.wrap (x4_1 * x4_1)) / 2147483648) / 2 ^ min (ji8).toNat 64) = ji10 := hji10
              have hji10z : (ji8) ≤ 64 → (((IntKind.u64.wrap (x4_1 * x4_1)) / 2147483648) / 2 ^ (ji8).toNat) = ji10 := shr_small hji10
              have H' := Aside0.mk H
              clear H
              go_wp2
              go_roundg k1
              case measure => have := HK1.out; omega
              case rel => exact ⟨(ji10), (Go.bits .or .i64 (wrap64 (x5_1 * 2)) (wrap64 (ji8))), (wrap64 (x18_1 + 1)), (by first | rfl | (simp; done) | (simp only [← hji10] <;> (first | rfl | simp)) | (simp [*]; done)), (by first | rfl | (simp; done) | (simp only [← hji8] <;> (first | rfl | simp)) | (simp [*]; done)), (by first | rfl | (simp; done) | (simp [*]; done)), H', ⟨by have := HK1.out; omega⟩, by repeat (first | exact Drawn0.refl _ | apply Drawn0.step)⟩
            · rw [if_neg c9] at H
              exact absurd H (by simp)
          · rw [if_neg c7] at H
            have c7b0 : decide (x18_1 < 8) = false := decide_eq_false c7
            clear c7
            obtain rfl := Option.some.inj H
            go_wp2
            go_ret
            exact ⟨by first | rfl | (simp; done) | (simp only [← hji4, ← hji6] <;> (first | rfl | simp)) | (simp [*]; done), by repeat (first | exact Drawn0.refl _ | apply Drawn0.step)⟩
    · rw [if_neg c5] at H
      exact absurd H (by simp)

/-! ### mel_High: function 12 -/
def mel_High.f (k : Nat) (a0 : Int) : Option (Int) := if a0 < 0 then (some 0) else (if a0 > 64 then (some 0) else ((logs_Log.f k (IntKind.u64.wrap (wrap64 (64 + (wrap64 (8 * a0)))))).bind fun t105 => (some (wrap64 (t105 - 1536)))))
theorem mel_High.mono : ∀ a0 k, LeO (mel_High.f k a0) (mel_High.f (k + 1) a0) := by
  intro a0 k
  unfold mel_High.f
  repeat' first
      | (with_reducible exact logs_Log.mono _ _)
      | (with_reducible exact LeO.refl _)
      | (with_reducible exact LeO.none _)
      | (with_reducible refine LeO.ite ?_ ?_)
      | (with_reducible refine LeO.bind ?_ (fun _ => ?_))
      | exact logs_Log.mono _ _
      | exact LeO.none _
      | refine LeO.ite ?_ ?_
      | refine LeO.bind ?_ (fun _ => ?_)
set_option maxHeartbeats 8000000 in
set_option maxRecDepth 100000 in
theorem mel_High.calls (k : Nat) (a0 : Int) (r : Int) (w : World) (h : mel_High.f k a0 = some r) :
    Calls Try.prog 12 #[.int .i64 a0] w fun e w' => e = .returned (.int .i64 r) ∧ Drawn0 w w' := by
  have H : (if a0 < 0 then (some 0) else (if a0 > 64 then (some 0) else ((logs_Log.f k (IntKind.u64.wrap (wrap64 (64 + (wrap64 (8 * a0)))))).bind fun t105 => (some (wrap64 (t105 - 1536)))))) = some r := h
  clear h
  by_cases c2 : a0 < 0
  · rw [if_pos c2] at H
    have c2b0 : decide (a0 < 0) = true := decide_eq_true c2
    clear c2
    obtain rfl := Option.some.inj H
    go_enter Try.func12, Try.ntmps12
    go_wp2
    go_ret
    exact ⟨by first | rfl | (simp; done) | (simp [*]; done), by repeat (first | exact Drawn0.refl _ | apply Drawn0.step)⟩
  · rw [if_neg c2] at H
    have c2b0 : decide (a0 < 0) = false := decide_eq_false c2
    clear c2
    by_cases c3 : a0 > 64
    · rw [if_pos c3] at H
      have c3b0 : decide (64 < a0) = true := decide_eq_true c3
      clear c3
      obtain rfl := Option.some.inj H
      go_enter Try.func12, Try.ntmps12
      go_wp2
      go_ret
      exact ⟨by first | rfl | (simp; done) | (simp [*]; done), by repeat (first | exact Drawn0.refl _ | apply Drawn0.step)⟩
    · rw [if_neg c3] at H
      have c3b0 : decide (64 < a0) = false := decide_eq_false c3
      clear c3
      replace H := Option.bind_eq_some_iff.mp H
      obtain ⟨t105, A40, H⟩ := H
      replace H : (some (wrap64 (t105 - 1536))) = some r := H
      have A4 := Aside0.mk A40
      clear A40
      obtain rfl := Option.some.inj H
      go_enter Try.func12, Try.ntmps12
      go_wp2_with (first | ((with_reducible refine gate_callee (f := 19) rfl ?_); refine goesL_ (some 13) rfl rfl Try.func19 (by kernel_rfl) rfl #[.int .u64 (IntKind.u64.wrap (wrap64 (64 + (wrap64 (8 * a0)))))] rfl (by (try simp only [List.map_toArray, List.map_cons, List.map_nil]); first | done | rfl | (simp only [List.length_drop, List.length_take]; rfl)) ?_; (with_reducible refine (logs_Log.calls k (IntKind.u64.wrap (wrap64 (64 + (wrap64 (8 * a0))))) t105 _ A4.out).mono ?_); rintro e w' ⟨rfl, ⟨nd, rfl⟩⟩; refine ⟨_, rfl, ?_⟩))
      go_ret
      exact ⟨by first | rfl | (simp; done) | (simp [*]; done), by repeat (first | exact Drawn0.refl _ | apply Drawn0.step)⟩

/-! ### mel_Edges: function 10 -/
/-! ### Words of 64 bits, and sums -/
theorem W_W_add (a b : Int) : wrap64 (wrap64 a + b) = wrap64 (a + b) := by unfold wrap64; omega
theorem W_add_W (a b : Int) : wrap64 (a + wrap64 b) = wrap64 (a + b) := by unfold wrap64; omega
theorem W_W_sub (a b : Int) : wrap64 (wrap64 a - b) = wrap64 (a - b) := by unfold wrap64; omega
theorem W_sub_W (a b : Int) : wrap64 (a - wrap64 b) = wrap64 (a - b) := by unfold wrap64; omega
theorem W_neg_W (a : Int) : wrap64 (-(wrap64 a)) = wrap64 (-a) := by unfold wrap64; omega
theorem W_W (a : Int) : wrap64 (wrap64 a) = wrap64 a := by unfold wrap64; omega
theorem W_in {a : Int} (h0 : -9223372036854775808 ≤ a) (h1 : a ≤ 9223372036854775807) : wrap64 a = a := by unfold wrap64; omega
theorem W_lo (a : Int) : -9223372036854775808 ≤ wrap64 a := by unfold wrap64; omega
theorem W_hi (a : Int) : wrap64 a ≤ 9223372036854775807 := by unfold wrap64; omega
theorem W_q (a : Int) : ∃ q, wrap64 a = a - 18446744073709551616 * q := ⟨(a + 9223372036854775808) / 18446744073709551616, by unfold wrap64; omega⟩
theorem W_of_q (a q : Int) : wrap64 (a - 18446744073709551616 * q) = wrap64 a := by unfold wrap64; omega
theorem W_W_mul (a b : Int) : wrap64 (wrap64 a * b) = wrap64 (a * b) := by
  obtain ⟨q, hq⟩ := W_q a
  rw [hq, Int.sub_mul, Int.mul_assoc]
  exact W_of_q _ _
theorem W_mul_W (a b : Int) : wrap64 (a * wrap64 b) = wrap64 (a * b) := by rw [Int.mul_comm, W_W_mul, Int.mul_comm]
theorem W_inj {a b : Int} (h : wrap64 a = wrap64 b) (c : Int) : wrap64 (c + a) = wrap64 (c + b) := by rw [← W_add_W, h, W_add_W]
def S : Nat → (Nat → Int) → Int
  | 0, _ => 0
  | n + 1, g => S n g + g n
theorem S_congr {n : Nat} {g f : Nat → Int} (h : ∀ i, i < n → g i = f i) : S n g = S n f := by
  induction n with
  | zero => rfl
  | succ n ih => rw [S, S, ih (fun i hi => h i (by omega)), h n (by omega)]
theorem S_add (n : Nat) (g f : Nat → Int) : S n (fun i => g i + f i) = S n g + S n f := by
  induction n with
  | zero => rfl
  | succ n ih => simp only [S, ih]; omega
theorem S_sub (n : Nat) (g f : Nat → Int) : S n (fun i => g i - f i) = S n g - S n f := by
  induction n with
  | zero => rfl
  | succ n ih => simp only [S, ih]; omega
theorem S_neg (n : Nat) (g : Nat → Int) : S n (fun i => -g i) = -S n g := by
  induction n with
  | zero => rfl
  | succ n ih => simp only [S, ih]; omega
theorem S_mul (n : Nat) (c : Int) (g : Nat → Int) : S n (fun i => c * g i) = c * S n g := by
  induction n with
  | zero => simp [S]
  | succ n ih => simp only [S, ih, Int.mul_add]
theorem S_mul_r (n : Nat) (c : Int) (g : Nat → Int) : S n (fun i => g i * c) = S n g * c := by
  induction n with
  | zero => simp [S]
  | succ n ih => simp only [S, ih, Int.add_mul]
theorem S_zero {n : Nat} {g : Nat → Int} (h : ∀ i, i < n → g i = 0) : S n g = 0 := by
  induction n with
  | zero => rfl
  | succ n ih => rw [S, ih (fun i hi => h i (by omega)), h n (by omega)]; rfl
theorem S_const (n : Nat) (c : Int) : S n (fun _ => c) = n * c := by
  induction n with
  | zero => simp [S]
  | succ n ih => simp only [S, ih]; rw [Int.natCast_succ, Int.add_mul]; omega
theorem S_swap (n m : Nat) (g : Nat → Nat → Int) : S n (fun i => S m (fun j => g i j)) = S m (fun j => S n (fun i => g i j)) := by
  induction n with
  | zero => exact (S_zero (fun _ _ => rfl)).symm
  | succ n ih =>
    simp only [S]
    rw [ih, S_add]
theorem S_one {n k : Nat} {g : Nat → Int} (hk : k < n) (h : ∀ i, i < n → i ≠ k → g i = 0) : S n g = g k := by
  induction n with
  | zero => omega
  | succ n ih =>
    rw [S]
    by_cases e : k = n
    · subst e
      rw [S_zero (fun i hi => h i (by omega) (by omega))]; omega
    · rw [ih (by omega) (fun i hi hne => h i (by omega) hne), h n (by omega) (by omega)]; omega
theorem S_split (n m : Nat) (g : Nat → Int) : S (n + m) g = S n g + S m (fun i => g (n + i)) := by
  induction m with
  | zero => simp [S]
  | succ m ih => rw [← Nat.add_assoc, S, ih, S]; omega
theorem S_evenodd (n : Nat) (g : Nat → Int) : S (2 * n) g = S n (fun i => g (2 * i)) + S n (fun i => g (2 * i + 1)) := by
  induction n with
  | zero => rfl
  | succ n ih => rw [show 2 * (n + 1) = 2 * n + 1 + 1 by omega, S, S, ih, S, S]; omega
theorem S_front (n : Nat) (g : Nat → Int) : S (n + 1) g = g 0 + S n (fun i => g (i + 1)) := by
  rw [Nat.add_comm n 1, S_split]
  simp only [S, Int.zero_add]
  congr 1
  exact S_congr (fun i _ => by rw [Nat.add_comm])
theorem S_rev (n : Nat) (g : Nat → Int) : S n g = S n (fun i => g (n - 1 - i)) := by
  induction n generalizing g with
  | zero => rfl
  | succ n ih =>
    rw [S_front, ih, S]
    simp only [Nat.add_sub_cancel, Nat.sub_self]
    rw [Int.add_comm]
    congr 1
    exact S_congr (fun i hi => by rw [show n - 1 - i + 1 = n - i by omega])
theorem S_le {n : Nat} {g f : Nat → Int} (h : ∀ i, i < n → g i ≤ f i) : S n g ≤ S n f := by
  induction n with
  | zero => exact Int.le_refl _
  | succ n ih =>
    rw [S, S]
    have h1 := ih (fun i hi => h i (by omega))
    have h2 := h n (by omega)
    omega
theorem S_bound {n : Nat} {g : Nat → Int} {b : Int} (h : ∀ i, i < n → -b ≤ g i ∧ g i ≤ b) : -(n * b) ≤ S n g ∧ S n g ≤ n * b := by
  have h1 := S_le (n := n) (g := g) (f := fun _ => b) (fun i hi => (h i hi).2)
  have h2 := S_le (n := n) (g := fun _ => -b) (f := g) (fun i hi => (h i hi).1)
  rw [S_const] at h1 h2
  rw [Int.mul_neg] at h2
  exact ⟨h2, h1⟩
/-- Sums whose parts are words: only the whole is cut. -/
theorem W_S (n : Nat) (g : Nat → Int) : wrap64 (S n (fun i => wrap64 (g i))) = wrap64 (S n g) := by
  induction n with
  | zero => rfl
  | succ n ih => rw [S, S, W_add_W, ← W_W_add, ih, W_W_add]
theorem W_S_mul (n : Nat) (g f : Nat → Int) : wrap64 (S n (fun i => wrap64 (g i) * f i)) = wrap64 (S n (fun i => g i * f i)) := by
  rw [← W_S]
  rw [← W_S n (fun i => g i * f i)]
  congr 1
  exact S_congr (fun i _ => W_W_mul _ _)
theorem emod_mk {x m q r : Int} (h : x = m * q + r) (h0 : 0 ≤ r) (h1 : r < m) : x % m = r := by
  rw [h, Int.add_comm, Int.add_mul_emod_self_left]
  exact Int.emod_eq_of_lt h0 h1

/-! ### Spins: rows that come back with the other sign -/
def In64 (l : List Int) : Prop := ∀ x ∈ l, -9223372036854775808 ≤ x ∧ x ≤ 9223372036854775807
theorem In64.getD {l : List Int} (h : In64 l) (i : Nat) : wrap64 (l.getD i 0) = l.getD i 0 := by
  rw [List.getD_eq_getElem?_getD]
  rcases Nat.lt_or_ge i l.length with hi | hi
  · rw [List.getElem?_eq_getElem hi]
    have := h _ (List.getElem_mem hi)
    exact W_in this.1 this.2
  · rw [List.getElem?_eq_none hi]; exact W_in (a := 0) (by decide) (by decide)
/-- A row's number at any place: behind its end it begins anew with the other sign. -/
def ext (l : List Int) (p : Int) : Int :=
  if (p % (2 * (l.length : Int))).toNat < l.length then l.getD (p % (2 * (l.length : Int))).toNat 0 else wrap64 (-(l.getD ((p % (2 * (l.length : Int))).toNat - l.length) 0))
def turnL (l : List Int) (k : Int) : List Int := (List.range l.length).map fun q : Nat => ext l ((q : Int) - k)
theorem turnL_length (l : List Int) (k : Int) : (turnL l k).length = l.length := by simp [turnL]
theorem getD_map_range (n : Nat) (f : Nat → Int) (i : Nat) (hi : i < n) : ((List.range n).map f).getD i 0 = f i := by
  rw [List.getD_eq_getElem?_getD, List.getElem?_map, List.getElem?_range hi]; rfl
theorem turnL_getD (l : List Int) (k : Int) (i : Nat) (hi : i < l.length) : (turnL l k).getD i 0 = ext l ((i : Int) - k) := getD_map_range _ _ _ hi
theorem ext_nil (p : Int) : ext [] p = 0 := by
  unfold ext
  rw [if_neg (by simp)]
  exact W_in (a := 0) (by decide) (by decide)
theorem ext_mod {l : List Int} {p q : Int} (h : p % (2 * (l.length : Int)) = q % (2 * (l.length : Int))) : ext l p = ext l q := by unfold ext; rw [h]
theorem ext_low (l : List Int) (i : Nat) (hi : i < l.length) : ext l (i : Int) = l.getD i 0 := by
  have : (i : Int) % (2 * (l.length : Int)) = i := Int.emod_eq_of_lt (by omega) (by omega)
  unfold ext
  rw [this, if_pos (by omega), Int.toNat_natCast]
theorem ext_in (l : List Int) (hl : In64 l) (p : Int) : wrap64 (ext l p) = ext l p := by
  unfold ext
  split
  · exact hl.getD _
  · exact W_W _
theorem add_half (h : Nat) (h0 : 0 < h) (p : Int) : (p + h) % (2 * (h : Int)) = if p % (2 * (h : Int)) < h then p % (2 * (h : Int)) + h else p % (2 * (h : Int)) - h := by
  have e := Int.mul_ediv_add_emod p (2 * (h : Int))
  have r0 := Int.emod_nonneg p (show 2 * (h : Int) ≠ 0 by omega)
  have r1 := Int.emod_lt_of_pos p (show 0 < 2 * (h : Int) by omega)
  generalize hq : p / (2 * (h : Int)) = q at e
  generalize hr : p % (2 * (h : Int)) = r at e r0 r1
  split
  · exact emod_mk (q := q) (by omega) (by omega) (by omega)
  · refine emod_mk (q := q + 1) ?_ (by omega) (by omega)
    rw [Int.mul_add]; omega
theorem ext_half (l : List Int) (hl : In64 l) (p : Int) : ext l (p + l.length) = wrap64 (-(ext l p)) := by
  rcases Nat.eq_zero_or_pos l.length with h0 | h0
  · have : l = [] := List.eq_nil_of_length_eq_zero h0
    subst this
    rw [ext_nil, ext_nil]
    exact (W_in (a := 0) (by decide) (by decide)).symm
  have r0 := Int.emod_nonneg p (show 2 * (l.length : Int) ≠ 0 by omega)
  have r1 := Int.emod_lt_of_pos p (show 0 < 2 * (l.length : Int) by omega)
  unfold ext
  rw [add_half l.length h0 p]
  generalize p % (2 * (l.length : Int)) = r at r0 r1
  by_cases h : r < l.length
  · rw [if_pos h, if_neg (by omega), if_pos (by omega)]
    rw [show (r + (l.length : Int)).toNat - l.length = r.toNat by omega]
  · rw [if_neg h, if_pos (by omega), if_neg (by omega), W_neg_W, Int.neg_neg, hl.getD, show (r - (l.length : Int)).toNat = r.toNat - l.length by omega]
theorem turnL_in (l : List Int) (hl : In64 l) (k : Int) : In64 (turnL l k) := by
  intro x hx
  simp only [turnL, List.mem_map] at hx
  obtain ⟨q, _, rfl⟩ := hx
  rw [← ext_in l hl]
  exact ⟨W_lo _, W_hi _⟩
theorem ext_turn (l : List Int) (hl : In64 l) (k p : Int) : ext (turnL l k) p = ext l (p - k) := by
  rcases Nat.eq_zero_or_pos l.length with h0 | h0
  · have : l = [] := List.eq_nil_of_length_eq_zero h0
    subst this
    rfl
  have e := Int.mul_ediv_add_emod p (2 * (l.length : Int))
  have r0 := Int.emod_nonneg p (show 2 * (l.length : Int) ≠ 0 by omega)
  have r1 := Int.emod_lt_of_pos p (show 0 < 2 * (l.length : Int) by omega)
  have hm : ext l (p - k) = ext l (p % (2 * (l.length : Int)) - k) := ext_mod (by rw [Int.sub_emod (p % (2 * (l.length : Int))), Int.emod_emod_of_dvd _ (Int.dvd_refl _), ← Int.sub_emod])
  rw [hm]
  unfold ext
  rw [turnL_length]
  generalize p % (2 * (l.length : Int)) = r at r0 r1
  by_cases h : r.toNat < l.length
  · rw [if_pos h, turnL_getD _ _ _ h, Int.toNat_of_nonneg r0]
    rfl
  · rw [if_neg h, turnL_getD _ _ _ (by omega)]
    have e2 : ((r.toNat - l.length : Nat) : Int) - k = r - k - l.length := by omega
    rw [e2, ← ext_half l hl (r - k - l.length), show r - k - (l.length : Int) + l.length = r - k by omega]
    rfl
theorem row_ext {a b : List Int} (hl : a.length = b.length) (h : ∀ i, i < a.length → a.getD i 0 = b.getD i 0) : a = b := by
  apply List.ext_getElem hl
  intro i h1 h2
  have := h i h1
  rwa [List.getD_eq_getElem?_getD, List.getD_eq_getElem?_getD, List.getElem?_eq_getElem h1, List.getElem?_eq_getElem h2] at this
theorem turn_turn (l : List Int) (hl : In64 l) (a b : Int) : turnL (turnL l a) b = turnL l (a + b) := by
  refine row_ext (by simp [turnL_length]) (fun i hi => ?_)
  rw [turnL_length, turnL_length] at hi
  rw [turnL_getD _ _ _ (by rw [turnL_length]; exact hi), turnL_getD _ _ _ hi, ext_turn l hl]
  congr 1
  omega
theorem turn_same (l : List Int) {a b : Int} (h : a % (2 * (l.length : Int)) = b % (2 * (l.length : Int))) : turnL l a = turnL l b := by
  refine row_ext (by simp [turnL_length]) (fun i hi => ?_)
  rw [turnL_length] at hi
  rw [turnL_getD _ _ _ hi, turnL_getD _ _ _ hi]
  exact ext_mod (by rw [Int.sub_emod, h, ← Int.sub_emod])
theorem turn_zero (l : List Int) : turnL l 0 = l := by
  refine row_ext (by simp [turnL_length]) (fun i hi => ?_)
  rw [turnL_length] at hi
  rw [turnL_getD _ _ _ hi, Int.sub_zero, ext_low l i hi]
theorem turn_whole (l : List Int) : turnL l (2 * (l.length : Int)) = l := by
  rw [turn_same l (b := 0) (by simp), turn_zero]
theorem turn_half_getD (l : List Int) (hl : In64 l) (i : Nat) (hi : i < l.length) : (turnL l l.length).getD i 0 = wrap64 (-(l.getD i 0)) := by
  rw [turnL_getD _ _ _ hi, ext_mod (q := (i : Int) + l.length) (by
    rw [← Int.add_mul_emod_self_left ((i : Int) - l.length) (2 * (l.length : Int)) 1]; congr 1; omega), ext_half l hl, ext_low l i hi]
def addL (a b : List Int) : List Int := if a.length = b.length then List.zipWith (fun x y => wrap64 (x + y)) a b else []
def lessL (a b : List Int) : List Int := if a.length = b.length then List.zipWith (fun x y => wrap64 (x - y)) a b else []
theorem addL_length {a b : List Int} (h : a.length = b.length) : (addL a b).length = a.length := by unfold addL; rw [if_pos h, List.length_zipWith]; omega
theorem lessL_length {a b : List Int} (h : a.length = b.length) : (lessL a b).length = a.length := by unfold lessL; rw [if_pos h, List.length_zipWith]; omega
theorem zip_getD {a b : List Int} (f : Int → Int → Int) (i : Nat) (h1 : i < a.length) (h2 : i < b.length) : (List.zipWith f a b).getD i 0 = f (a.getD i 0) (b.getD i 0) := by
  simp only [List.getD_eq_getElem?_getD, List.getElem?_zipWith, List.getElem?_eq_getElem h1, List.getElem?_eq_getElem h2]; rfl
theorem addL_getD {a b : List Int} (h : a.length = b.length) (i : Nat) (hi : i < a.length) : (addL a b).getD i 0 = wrap64 (a.getD i 0 + b.getD i 0) := by
  unfold addL; rw [if_pos h, zip_getD _ i hi (by omega)]
theorem lessL_getD {a b : List Int} (h : a.length = b.length) (i : Nat) (hi : i < a.length) : (lessL a b).getD i 0 = wrap64 (a.getD i 0 - b.getD i 0) := by
  unfold lessL; rw [if_pos h, zip_getD _ i hi (by omega)]
theorem In64_of_getD {l : List Int} (h : ∀ i, i < l.length → ∃ x, l.getD i 0 = wrap64 x) : In64 l := by
  intro x hx
  obtain ⟨i, hi, rfl⟩ := List.getElem_of_mem hx
  obtain ⟨y, hy⟩ := h i hi
  rw [List.getD_eq_getElem?_getD, List.getElem?_eq_getElem hi, Option.getD_some] at hy
  rw [hy]
  exact ⟨W_lo _, W_hi _⟩
theorem addL_in (a b : List Int) : In64 (addL a b) := by
  by_cases h : a.length = b.length
  · exact In64_of_getD fun i hi => ⟨_, addL_getD h i (by rwa [addL_length h] at hi)⟩
  · unfold addL; rw [if_neg h]; intro x hx; cases hx
theorem lessL_in (a b : List Int) : In64 (lessL a b) := by
  by_cases h : a.length = b.length
  · exact In64_of_getD fun i hi => ⟨_, lessL_getD h i (by rwa [lessL_length h] at hi)⟩
  · unfold lessL; rw [if_neg h]; intro x hx; cases hx
theorem ext_add {a b : List Int} (h : a.length = b.length) (p : Int) : ext (addL a b) p = wrap64 (ext a p + ext b p) := by
  rcases Nat.eq_zero_or_pos a.length with h0 | h0
  · have e1 : a = [] := List.eq_nil_of_length_eq_zero h0
    have e2 : b = [] := List.eq_nil_of_length_eq_zero (by omega)
    subst e1; subst e2
    have e3 : addL [] [] = [] := rfl
    have e4 : lessL [] [] = [] := rfl
    simp only [e3, e4, ext_nil]
    exact (W_in (a := 0) (by decide) (by decide)).symm
  have r0 := Int.emod_nonneg p (show 2 * (a.length : Int) ≠ 0 by omega)
  have r1 := Int.emod_lt_of_pos p (show 0 < 2 * (a.length : Int) by omega)
  unfold ext
  rw [addL_length h, ← h]
  generalize p % (2 * (a.length : Int)) = r at r0 r1
  by_cases hr : r.toNat < a.length
  · rw [if_pos hr, if_pos hr, if_pos hr, addL_getD h _ hr]
  · rw [if_neg hr, if_neg hr, if_neg hr, addL_getD h _ (by omega), W_neg_W, W_W_add, W_add_W]
    congr 1; omega
theorem ext_less {a b : List Int} (h : a.length = b.length) (p : Int) : ext (lessL a b) p = wrap64 (ext a p - ext b p) := by
  rcases Nat.eq_zero_or_pos a.length with h0 | h0
  · have e1 : a = [] := List.eq_nil_of_length_eq_zero h0
    have e2 : b = [] := List.eq_nil_of_length_eq_zero (by omega)
    subst e1; subst e2
    have e3 : addL [] [] = [] := rfl
    have e4 : lessL [] [] = [] := rfl
    simp only [e3, e4, ext_nil]
    exact (W_in (a := 0) (by decide) (by decide)).symm
  have r0 := Int.emod_nonneg p (show 2 * (a.length : Int) ≠ 0 by omega)
  have r1 := Int.emod_lt_of_pos p (show 0 < 2 * (a.length : Int) by omega)
  unfold ext
  rw [lessL_length h, ← h]
  generalize p % (2 * (a.length : Int)) = r at r0 r1
  by_cases hr : r.toNat < a.length
  · rw [if_pos hr, if_pos hr, if_pos hr, lessL_getD h _ hr]
  · rw [if_neg hr, if_neg hr, if_neg hr, lessL_getD h _ (by omega), W_neg_W, W_W_sub, W_sub_W]
    congr 1; omega
theorem turn_add {a b : List Int} (h : a.length = b.length) (k : Int) : turnL (addL a b) k = addL (turnL a k) (turnL b k) := by
  refine row_ext (by rw [turnL_length, addL_length h, addL_length (by simpa [turnL_length] using h), turnL_length]) (fun i hi => ?_)
  rw [turnL_length, addL_length h] at hi
  rw [turnL_getD _ _ _ (by rw [addL_length h]; exact hi), ext_add h, addL_getD (by simpa [turnL_length] using h) _ (by rw [turnL_length]; exact hi), turnL_getD _ _ _ hi, turnL_getD _ _ _ (by omega)]
theorem turn_less {a b : List Int} (h : a.length = b.length) (k : Int) : turnL (lessL a b) k = lessL (turnL a k) (turnL b k) := by
  refine row_ext (by rw [turnL_length, lessL_length h, lessL_length (by simpa [turnL_length] using h), turnL_length]) (fun i hi => ?_)
  rw [turnL_length, lessL_length h] at hi
  rw [turnL_getD _ _ _ (by rw [lessL_length h]; exact hi), ext_less h, lessL_getD (by simpa [turnL_length] using h) _ (by rw [turnL_length]; exact hi), turnL_getD _ _ _ hi, turnL_getD _ _ _ (by omega)]
theorem addL_comm (a b : List Int) : addL a b = addL b a := by
  unfold addL
  by_cases h : a.length = b.length
  · rw [if_pos h, if_pos h.symm, List.zipWith_comm]
    congr 1; funext x y; rw [Int.add_comm]
  · rw [if_neg h, if_neg (fun e => h e.symm)]

theorem turn_info : (Try.prog.info? 3).map (fun i => (i.zero, i.size, i.bytes)) = some (some (.int .i64 0), 1, 8) := by kernel_rfl
theorem own_free {W : World} {b g h cap : Nat} {xs : List Int} (HO : W.ownsRow b 3 1 (.slice (some ⟨g, 0, none⟩) h cap) h (nums .i64 xs)) (q : Nat) (hq : q < h) : (∃ y : Int, W.cell? ⟨g, q, none⟩ = some (.int .i64 y)) ∧ W.frozen? ⟨g, q, none⟩ = false := by
  have := own_at HO (q : Int) (by omega) (by omega)
  rw [Int.toNat_natCast] at this
  exact ⟨⟨_, this.1⟩, this.2⟩
theorem sp_ad {w : World} {A : Option Addr} {n : Nat} {xs : List Int} (h : (Kd.int .i64).C w A n xs) (hn : 0 < n) : ∃ ad, A = some ad ∧ ∀ j : Nat, j < n → w.cell? (ad.add j) = some (.int .i64 (xs.getD j 0)) := by
  obtain ⟨ad, ha, _⟩ := Kd.at_int h 0 (by omega) (by omega)
  refine ⟨ad, ha, fun j hj => ?_⟩
  obtain ⟨ad2, ha2, h2⟩ := Kd.at_int h (j : Int) (by omega) (by omega)
  rw [ha] at ha2
  obtain rfl := Option.some.inj ha2
  rw [Int.toNat_natCast] at h2
  rw [h2, rd, Int.toNat_natCast]
theorem sp_cell {w : World} {ad : Addr} {n : Nat} {xs : List Int} (h : (Kd.int .i64).C w (some ad) n xs) (j : Nat) (hj : j < n) : w.cell? (ad.add j) = some (.int .i64 (xs.getD j 0)) := by
  obtain ⟨ad2, ha, hw⟩ := sp_ad h (by omega)
  obtain rfl := Option.some.inj ha
  exact hw j hj

/-- How high the bins lie. -/
def hiTab : List Int := [0, 43, 82, 117, 149, 179, 206, 232, 256, 278, 299, 319, 338, 356, 373, 390, 405, 420, 435, 449, 462, 475, 488, 500, 512, 523, 534, 545, 555, 565, 575, 585, 594, 603, 612, 621, 629, 637, 646, 653, 661, 669, 676, 684, 691, 698, 705, 712, 718, 725, 731, 737, 744, 750, 756, 762, 768, 773, 779, 784, 790, 795, 801, 806, 811]
def hiN (b : Nat) : Int := hiTab.getD b 0
theorem hi_fin : ∀ b : Fin 65, mel_High.f 30 ((b.1 : Nat) : Int) = some (hiN b.1) := by decide +kernel
theorem hi_some {b : Nat} (h : b ≤ 64) : mel_High.f 30 (b : Int) = some (hiN b) := hi_fin ⟨b, by omega⟩
theorem hi_mono_fin : ∀ b : Fin 64, hiN b.1 ≤ hiN (b.1 + 1) := by decide +kernel
theorem hi_le {a b : Nat} (h : a ≤ b) (hb : b ≤ 64) : hiN a ≤ hiN b := by
  induction b with
  | zero => rw [show a = 0 by omega]; exact Int.le_refl _
  | succ b ih =>
    by_cases e : a = b + 1
    · rw [e]; exact Int.le_refl _
    · exact Int.le_trans (ih (by omega) (by omega)) (hi_mono_fin ⟨b, by omega⟩)
theorem hi_bd_fin : ∀ b : Fin 65, 0 ≤ hiN b.1 ∧ hiN b.1 ≤ 10000 := by decide +kernel
theorem hi_bd {b : Nat} (h : b ≤ 64) : 0 ≤ hiN b ∧ hiN b ≤ 10000 := hi_bd_fin ⟨b, by omega⟩
theorem hi_zero : hiN 0 = 0 := by decide
/-- The least bin from b on that is high enough. -/
def leastF (t c : Int) : Nat → Nat → Nat
  | 0, b => b
  | f + 1, b => if hiN b * c < t then leastF t c f (b + 1) else b
def edgeOf (n c m : Nat) : Nat := leastF ((m : Int) * hiN (n - 1)) (c : Int) 64 0
theorem leastF_spec (t c : Int) : ∀ f b, (∀ j, b ≤ j → j < leastF t c f b → hiN j * c < t) ∧ b ≤ leastF t c f b ∧ leastF t c f b ≤ b + f ∧ (leastF t c f b < b + f → ¬ hiN (leastF t c f b) * c < t)
  | 0, b => ⟨fun j h1 h2 => by rw [leastF] at h2; omega, Nat.le_refl _, Nat.le_refl _, fun h => by rw [leastF] at h; omega⟩
  | f + 1, b => by
    rw [leastF]
    by_cases h : hiN b * c < t
    · rw [if_pos h]
      obtain ⟨a1, a2, a3, a4⟩ := leastF_spec t c f (b + 1)
      refine ⟨fun j h1 h2 => ?_, by omega, by omega, fun hlt => a4 (by omega)⟩
      by_cases e : j = b
      · rw [e]; exact h
      · exact a1 j (by omega) h2
    · rw [if_neg h]
      exact ⟨fun j h1 h2 => by omega, Nat.le_refl _, by omega, fun _ => h⟩
theorem edge_spec {n c m : Nat} (h2 : 2 ≤ n) (h65 : n ≤ 65) (hm : m ≤ c) : (∀ j, j < edgeOf n c m → hiN j * (c : Int) < (m : Int) * hiN (n - 1)) ∧ edgeOf n c m ≤ n - 1 ∧ ¬ hiN (edgeOf n c m) * (c : Int) < (m : Int) * hiN (n - 1) := by
  obtain ⟨a1, a2, a3, a4⟩ := leastF_spec ((m : Int) * hiN (n - 1)) (c : Int) 64 0
  have htop : ¬ hiN (n - 1) * (c : Int) < (m : Int) * hiN (n - 1) := by
    have h0 := (hi_bd (b := n - 1) (by omega)).1
    have : (m : Int) * hiN (n - 1) ≤ (c : Int) * hiN (n - 1) := Int.mul_le_mul_of_nonneg_right (by omega) h0
    rw [Int.mul_comm (hiN (n - 1))]; omega
  have hle : edgeOf n c m ≤ n - 1 := by
    rcases Nat.lt_or_ge (n - 1) (edgeOf n c m) with h | h
    · exact absurd (a1 (n - 1) (Nat.zero_le _) h) htop
    · exact h
  refine ⟨fun j hj => a1 j (Nat.zero_le _) hj, hle, ?_⟩
  rcases Nat.lt_or_ge (edgeOf n c m) 64 with h | h
  · exact a4 (by show leastF _ _ 64 0 < 0 + 64; exact (by have := h; unfold edgeOf at this; omega))
  · have : edgeOf n c m = n - 1 := by omega
    rw [this]; exact htop
theorem edge_mono {n c m : Nat} (h2 : 2 ≤ n) (h65 : n ≤ 65) (hm : m + 1 ≤ c) : edgeOf n c m ≤ edgeOf n c (m + 1) := by
  obtain ⟨_, _, b3⟩ := edge_spec (m := m + 1) h2 h65 hm
  obtain ⟨a1, _, _⟩ := edge_spec (n := n) (c := c) (m := m) h2 h65 (by omega)
  rcases Nat.lt_or_ge (edgeOf n c (m + 1)) (edgeOf n c m) with h | h
  · exfalso
    apply b3
    have h1 := a1 _ h
    have h0 := (hi_bd (b := n - 1) (by omega)).1
    have : ((m + 1 : Nat) : Int) * hiN (n - 1) = (m : Int) * hiN (n - 1) + hiN (n - 1) := by rw [Int.natCast_succ, Int.add_mul]; omega
    omega
  · exact h
def edgesL (n c : Nat) : List Int := (List.range (c + 1)).map fun m => ((edgeOf n c m : Nat) : Int)
def mayE (bins bands : Int) : Bool := decide (2 ≤ bins) && decide (bins ≤ 65) && decide (1 ≤ bands) && decide (bands ≤ 16)
def edgesF (bins bands : Int) : List Int := if mayE bins bands = true then edgesL bins.toNat (bands.toNat + 1) else []

def mel_Edges.f (a0 a1 : Int) : Option (List Int) := some (edgesF a0 a1)
theorem high_c (b : Nat) (r : Int) (W : World) (hb : b ≤ 64) (hr : hiN b = r) : Calls Try.prog 12 #[.int .i64 (b : Int)] W fun e w' => e = .returned (.int .i64 r) ∧ Drawn0 W w' := by
  subst hr
  exact mel_High.calls 30 (b : Int) (hiN b) W (hi_some hb)
set_option maxHeartbeats 16000000 in
theorem edges_yes (n B : Nat) (w : World) (h2 : 2 ≤ n) (h65 : n ≤ 65) (b1 : 1 ≤ B) (b16 : B ≤ 16) :
    Calls Try.prog 10 #[.int .i64 (n : Int), .int .i64 (B : Int)] w fun e w' => ∃ v0_ : Value, e = .returned v0_ ∧ Kd.R (Kd.int .i64) 3 w' w.heap.size (fun _ => True) v0_ (edgesL n (B + 1)) ∧ Below w.heap.size w w' := by
  obtain ⟨N1, hN1⟩ : ∃ N1 : Nat, n = N1 + 1 := ⟨n - 1, by omega⟩
  subst hN1
  obtain ⟨T, hT⟩ : ∃ T, hiN N1 = T := ⟨_, rfl⟩
  have HS : Aside0 (∀ m, m ≤ B + 1 → (∀ j, j < edgeOf (N1 + 1) (B + 1) m → hiN j * ((B + 1 : Nat) : Int) < (m : Int) * T) ∧ edgeOf (N1 + 1) (B + 1) m ≤ N1 ∧ (m : Int) * T ≤ hiN (edgeOf (N1 + 1) (B + 1) m) * ((B + 1 : Nat) : Int)) :=
    ⟨fun m hm => by have := edge_spec (n := N1 + 1) h2 h65 hm; rw [Nat.add_sub_cancel, hT] at this; exact ⟨this.1, this.2.1, Int.not_lt.1 this.2.2⟩⟩
  have HM : Aside0 (∀ m, m + 1 ≤ B + 1 → edgeOf (N1 + 1) (B + 1) m ≤ edgeOf (N1 + 1) (B + 1) (m + 1)) := ⟨fun m hm => edge_mono h2 h65 hm⟩
  have hTb := hi_bd (b := N1) (by omega)
  rw [hT] at hTb
  have HT := Aside0.mk hT
  have hmk := print_make 25 3 .i64 8 Try.underlying25 turn_info (by decide) (B + 2) (by omega)
  have hcast : ((B + 2 : Nat) : Int) = (B : Int) + 2 := by omega
  rw [hcast] at hmk
  have hn1 : ((N1 + 1 : Nat) : Int) = (N1 : Int) + 1 := by omega
  rw [hn1]
  clear hT hcast hn1
  go_enter Try.func10, Try.ntmps10
  go_wp2_with (go_at_call 12; (with_reducible refine (high_c N1 T _ (by omega) HT.out).mono ?_); rintro e w' ⟨rfl, ⟨nd, rfl⟩⟩)
  go_loopw [7, 31] (fun v7 v wr => ∃ (m b : Nat) (xs : List Int), v = .int .i64 (m : Int) ∧ v7 = .int .i64 (b : Int) ∧ m ≤ B + 2 ∧ b ≤ N1 ∧ Aside0 (m ≤ B + 1 → b ≤ edgeOf (N1 + 1) (B + 1) m) ∧ Aside0 (xs.length = B + 2) ∧ Aside0 (∀ j, j < m → xs.getD j 0 = ((edgeOf (N1 + 1) (B + 1) j : Nat) : Int)) ∧ Aside0 (wr.ownsRow w.heap.size 3 1 (.slice (some ⟨w.heap.size, 0, none⟩) (B + 2) (B + 2)) (B + 2) (nums .i64 xs)) ∧ Aside0 (Below w.heap.size w wr)) (fun _ v _ => B + 2 - (intOf v).toNat)
  case atStart =>
    refine ⟨0, 0, List.replicate (B + 2) 0, rfl, rfl, by omega, by omega, ⟨fun _ => Nat.zero_le _⟩, ⟨by simp⟩, ⟨fun j hj => by omega⟩, ⟨?_⟩, ⟨by repeat (first | exact Below.refl _ _ | apply below_alloc | apply pw_below_drewN)⟩⟩
    exact own_made (w.drewN nd) w.heap.size 3 .i64 (B + 2) (Nat.le_refl _) (by omega)
  case round =>
    obtain ⟨m, b, xs, rfl, rfl, hm, hb, HE, HX, HJ, HO, HB⟩ := hrel
    by_cases hlt : m < B + 2
    · obtain ⟨E, hE⟩ : ∃ E, edgeOf (N1 + 1) (B + 1) m = E := ⟨_, rfl⟩
      obtain ⟨s1, s2, s3⟩ := HS.out m (by omega)
      have hbE := HE.out (by omega)
      rw [hE] at s1 s2 s3 hbE
      have HEE := Aside0.mk hE
      obtain ⟨P, hP⟩ : ∃ P, (m : Int) * T = P := ⟨_, rfl⟩
      have hP2 : 0 ≤ P ∧ P ≤ 170000 := by
        rw [← hP]
        exact ⟨Int.mul_nonneg (by omega) hTb.1, Int.le_trans (Int.mul_le_mul_of_nonneg_left hTb.2 (by omega)) (by omega)⟩
      have hPw : wrap64 ((m : Int) * T) = P := by rw [hP]; exact W_in (by omega) (by omega)
      have S1 : Aside0 (∀ j, j < E → hiN j * ((B : Int) + 1) < P) := ⟨fun j hj => by have := s1 j hj; rw [hP] at this; rw [show ((B : Int) + 1) = ((B + 1 : Nat) : Int) by omega]; exact this⟩
      have S3 : Aside0 (P ≤ hiN E * ((B : Int) + 1)) := ⟨by rw [hP] at s3; rw [show ((B : Int) + 1) = ((B + 1 : Nat) : Int) by omega]; exact s3⟩
      clear s1 s3 hE hP
      obtain ⟨⟨y, hy⟩, hfr⟩ := own_free HO.out m hlt
      have hdm : decide ((m : Int) < (B : Int) + 2) = true := decide_eq_true (by omega)
      go_wp2
      go_loopw [7] (fun v7 wr2 => ∃ (b' : Nat), v7 = .int .i64 (b' : Int) ∧ b' ≤ E ∧ Aside0 (∃ k, wr2 = wr.drewN k)) (fun v7 _ => E - (intOf v7).toNat)
      case atStart => exact ⟨b, rfl, hbE, ⟨⟨0, rfl⟩⟩⟩
      case round =>
        obtain ⟨b', rfl, hbb, HK⟩ := hrel
        obtain ⟨k, rfl⟩ := HK.out
        obtain ⟨hv, hhv⟩ : ∃ hv, hiN b' = hv := ⟨_, rfl⟩
        have hvb := hi_bd (b := b') (by omega)
        rw [hhv] at hvb
        have HHV := Aside0.mk hhv
        have hq : 0 ≤ hv * ((B : Int) + 1) ∧ hv * ((B : Int) + 1) ≤ 170000 :=
          ⟨Int.mul_nonneg hvb.1 (by omega), Int.le_trans (Int.mul_le_mul_of_nonneg_right hvb.2 (by omega)) (by omega)⟩
        obtain ⟨Q, hQ⟩ : ∃ Q, hv * ((B : Int) + 1) = Q := ⟨_, rfl⟩
        have hQw : wrap64 (hv * ((B : Int) + 1)) = Q := by rw [hQ] at hq ⊢; exact W_in (by omega) (by omega)
        have hcmp : (b' < E → decide (Q < P) = true) ∧ (b' = E → decide (Q < P) = false) := by
          refine ⟨fun h => decide_eq_true ?_, fun h => decide_eq_false ?_⟩
          · have := S1.out b' h; rwa [hhv, hQ] at this
          · have := S3.out; rw [← h, hhv, hQ] at this; omega
        clear hhv hQ hq
        by_cases hlt2 : b' < E
        · have hd := hcmp.1 hlt2
          clear hcmp
          go_wp2_with (go_at_call 12; (with_reducible refine (high_c b' hv _ (by omega) HHV.out).mono ?_); rintro e w' ⟨rfl, ⟨nd2, rfl⟩⟩)
          go_roundw
          case rel => exact ⟨b' + 1, by go_num, by omega, ⟨⟨_, rfl⟩⟩⟩
          case measure => simp [intOf]; omega
        · have hd := hcmp.2 (by omega)
          obtain rfl : E = b' := by omega
          clear hcmp
          go_wp2_with (go_at_call 12; (with_reducible refine (high_c E hv _ (by omega) HHV.out).mono ?_); rintro e w' ⟨rfl, ⟨nd2, rfl⟩⟩)
          go_roundw
          case rel =>
            have HO2 : (wr.drewN (k + nd2)).ownsRow w.heap.size 3 1 (.slice (some ⟨w.heap.size, 0, none⟩) (B + 2) (B + 2)) (B + 2) (nums .i64 xs) := pw_own_below HO.out (pw_below_drewN (Below.refl _ _) _)
            have HB2 : Below w.heap.size w (wr.drewN (k + nd2)) := pw_below_drewN HB.out _
            have hst := own_store HO2 (m : Int) (E : Int)
            rw [Int.toNat_natCast] at hst
            refine ⟨m + 1, E, _, by go_num, rfl, by omega, by omega, ⟨fun h => by have := HM.out m h; rw [HEE.out] at this; exact this⟩, ⟨by rw [List.length_set, HX.out]⟩, ⟨?_⟩, ⟨hst.1⟩, ⟨Below.grown HB2 hst.2 HB2.size (fun k hk => by injection hk with hk; omega)⟩⟩
            intro j hj
            by_cases e : j = m
            · subst e
              rw [List.getD_eq_getElem?_getD, List.getElem?_set_self (by rw [HX.out]; exact hlt), HEE.out]; rfl
            · have := HJ.out j (by omega)
              rw [List.getD_eq_getElem?_getD] at this ⊢
              rw [List.getElem?_set_ne (fun h => e h.symm)]
              exact this
          case measure => simp [intOf]; omega
    · obtain rfl : m = B + 2 := by omega
      go_wp2
      go_ret
      refine ⟨_, rfl, ?_, HB.out⟩
      have hU : xs = edgesL (N1 + 1) (B + 1) := by
        refine row_ext (by rw [HX.out]; simp [edgesL]) (fun j hj => ?_)
        rw [HX.out] at hj
        rw [HJ.out j hj]
        exact (getD_map_range (B + 1 + 1) (fun m : Nat => ((edgeOf (N1 + 1) (B + 1) m : Nat) : Int)) j (by omega)).symm
      rw [← hU]
      exact Kd.R_of_own (enc := Value.int .i64) (h1 := fun _ => rfl) (ok := fun _ => True) (xs := xs) (by rw [HX.out]; exact HO.out) (fun _ _ => trivial)
theorem edges_no (a0 a1 : Int) (w : World) (h : mayE a0 a1 = false) :
    Calls Try.prog 10 #[.int .i64 a0, .int .i64 a1] w fun e w' => ∃ v0_ : Value, e = .returned v0_ ∧ Kd.R (Kd.int .i64) 3 w' w.heap.size (fun _ => True) v0_ [] ∧ Below w.heap.size w w' := by
  have hc : decide (a0 < 2) = true ∨ decide (a0 < 2) = false ∧ decide (65 < a0) = true ∨ decide (a0 < 2) = false ∧ decide (65 < a0) = false ∧ decide (a1 < 1) = true ∨ decide (a0 < 2) = false ∧ decide (65 < a0) = false ∧ decide (a1 < 1) = false ∧ decide (16 < a1) = true := by
    by_cases c1 : a0 < 2
    · exact .inl (decide_eq_true c1)
    by_cases c2 : 65 < a0
    · exact .inr (.inl ⟨decide_eq_false c1, decide_eq_true c2⟩)
    by_cases c3 : a1 < 1
    · exact .inr (.inr (.inl ⟨decide_eq_false c1, decide_eq_false c2, decide_eq_true c3⟩))
    by_cases c4 : 16 < a1
    · exact .inr (.inr (.inr ⟨decide_eq_false c1, decide_eq_false c2, decide_eq_false c3, decide_eq_true c4⟩))
    · exfalso
      have : mayE a0 a1 = true := by unfold mayE; simp only [Bool.and_eq_true, decide_eq_true_eq]; omega
      rw [this] at h; cases h
  clear h
  rcases hc with c1 | ⟨c1, c2⟩ | ⟨c1, c2, c3⟩ | ⟨c1, c2, c3, c4⟩
  all_goals
    go_enter Try.func10, Try.ntmps10
    go_wp2
    go_ret
    exact ⟨_, rfl, Kd.R_nil _ _ _ _ _, Below.refl _ _⟩
theorem mel_Edges.calls (a0 a1 : Int) (r : List Int) (w : World) (h : mel_Edges.f a0 a1 = some r) :
    Calls Try.prog 10 #[.int .i64 a0, .int .i64 a1] w fun e w' => ∃ v0_ : Value, e = .returned v0_ ∧ Kd.R (Kd.int .i64) 3 w' w.heap.size (fun _ => True) v0_ r ∧ Below w.heap.size w w' := by
  obtain rfl := Option.some.inj h
  unfold edgesF
  by_cases hm : mayE a0 a1 = true
  · rw [if_pos hm]
    simp only [mayE, Bool.and_eq_true, decide_eq_true_eq] at hm
    obtain ⟨n, rfl⟩ := Int.eq_ofNat_of_zero_le (show 0 ≤ a0 by omega)
    obtain ⟨B, rfl⟩ := Int.eq_ofNat_of_zero_le (show 0 ≤ a1 by omega)
    exact edges_yes n B w (by omega) (by omega) (by omega) (by omega)
  · rw [if_neg hm]
    exact edges_no a0 a1 w (by simpa using hm)

end Go.Proofs.Ytohmecfjpmapnaa.PMelSums
