-- Written by a program of this work (wip/tools) for this claim; Lean checks it.
import Derived.Test.YteihjdpbahfnnaaPCrcTurnedx0
import Derived.Test.YteihjdpbahfnnaaPCrcTurnedx1
namespace Go.Proofs.Yteihjdpbahfnnaa.PCrcTurned
open Go.RowKit Go.Proofs.YteihjdpbahfnnaaW.PrintWords Go.Proofs.YteihjdpbahfnnaaW.PrintLast Go.Proofs.YteihjdpbahfnnaaW.PrintMore
attribute [local go_sem] max2_int min2_int max_two min_two max_three min_three max_four min_four   -- for this text's walks alone
set_option linter.unusedVariables false
set_option linter.unusedSimpArgs false

/-! ### earshotlaw05_CrcTurned: function 4 -/
def earshotlaw05_CrcTurned.l0 : Nat → ByteArray → ByteArray → ByteArray → Bool → Int → List Int → Int → Option (Bool)
  | 0, _, _, _, _, _, _, _ => none
  | k + 1, x0, x1, x2, x7, x8, x9, x10 => if x10 < x8 then (if 0 ≤ x10 then (if x10 < (x0.size : Int) then (if x10 < (x1.size : Int) then (if x10 < (x2.size : Int) then (if x9.length < 140737488355328 then (earshotlaw05_CrcTurned.l0 k x0 x1 x2 x7 x8 (x9 ++ [Go.bits .xor .u8 (Go.bits .xor .u8 (bt x0 x10) (bt x1 x10)) (bt x2 x10)]) (wrap64 (x10 + 1))) else (none)) else (none)) else (none)) else (none)) else (none)) else (if x7 = true then ((crc_Sum.f (([strOfNums x9] : List ByteArray))).bind fun t112 => (if 0 ≤ x8 then (if x8 ≤ (x0.size : Int) then ((crc_Sum.f (([x0.extract 0 (x8 : Int).toNat] : List ByteArray))).bind fun t116 => (if x8 ≤ (x1.size : Int) then ((crc_Sum.f (([x1.extract 0 (x8 : Int).toNat] : List ByteArray))).bind fun t120 => (if x8 ≤ (x2.size : Int) then ((crc_Sum.f (([x2.extract 0 (x8 : Int).toNat] : List ByteArray))).bind fun t124 => (some (t112 == (Go.bits .xor .u32 (Go.bits .xor .u32 t116 t120) t124)))) else (none))) else (none))) else (none)) else (none))) else (some false))
def earshotlaw05_CrcTurned.f (k : Nat) (a0 : ByteArray) (a1 : ByteArray) (a2 : ByteArray) : Option (Bool) := (earshotlaw05_awake.f).bind fun t105 => (earshotlaw05_CrcTurned.l0 k a0 a1 a2 t105 (mn (a0.size : Int) (mn (a1.size : Int) (mn (a2.size : Int) 60))) ([] : List Int) 0)
theorem earshotlaw05_CrcTurned.mono_l : ∀ k, (∀ y0 y1 y2 y3 y4 y5 y6, LeO (earshotlaw05_CrcTurned.l0 k y0 y1 y2 y3 y4 y5 y6) (earshotlaw05_CrcTurned.l0 (k + 1) y0 y1 y2 y3 y4 y5 y6))
  | 0 => fun _ _ _ _ _ _ _ r h => by simp [earshotlaw05_CrcTurned.l0] at h
  | k + 1 => by
    have ih0 := earshotlaw05_CrcTurned.mono_l k
    · intro y0 y1 y2 y3 y4 y5 y6
      unfold earshotlaw05_CrcTurned.l0
      repeat' first
      | (with_reducible exact ih0 _ _ _ _ _ _ _)
      | (with_reducible exact LeO.refl _)
      | (with_reducible exact LeO.none _)
      | (with_reducible refine LeO.ite ?_ ?_)
      | (with_reducible refine LeO.bind ?_ (fun _ => ?_))
      | exact ih0 _ _ _ _ _ _ _
      | exact LeO.none _
      | refine LeO.ite ?_ ?_
      | refine LeO.bind ?_ (fun _ => ?_)
theorem earshotlaw05_CrcTurned.mono : ∀ a0 a1 a2 k, LeO (earshotlaw05_CrcTurned.f k a0 a1 a2) (earshotlaw05_CrcTurned.f (k + 1) a0 a1 a2) := by
  intro a0 a1 a2 k
  have ih0 := earshotlaw05_CrcTurned.mono_l k
  unfold earshotlaw05_CrcTurned.f
  repeat' first
      | (with_reducible exact ih0 _ _ _ _ _ _ _)
      | (with_reducible exact LeO.refl _)
      | (with_reducible exact LeO.none _)
      | (with_reducible refine LeO.ite ?_ ?_)
      | (with_reducible refine LeO.bind ?_ (fun _ => ?_))
      | exact ih0 _ _ _ _ _ _ _
      | exact LeO.none _
      | refine LeO.ite ?_ ?_
      | refine LeO.bind ?_ (fun _ => ?_)
def earshotlaw05_CrcTurned.T7 : Bool × List (List Nat × List Nat) := (true, [([], []), ([], []), ([], []), ([1, 2], [1, 2]), ([], []), ([], []), ([4, 5], [4, 5]), ([3, 6], [3, 6]), ([], []), ([], []), ([8, 9], [8, 9]), ([7, 10], [7, 10]), ([11], [11]), ([0, 12], [0, 12]), ([13, 13, 0, 1, 2, 3, 4, 5, 6, 7, 8, 9, 10, 11, 12, 13], [0, 13])])
def earshotlaw05_CrcTurned.B7 : List Nat := [0, 0, 0, 6, 0, 0, 48, 126, 0, 0, 768, 2046, 4094, 8191, 16383]
theorem earshotlaw05_CrcTurned.tab7 : rtab .any (opsOf Try.f4 7) = earshotlaw05_CrcTurned.T7 := by kernel_rfl
theorem earshotlaw05_CrcTurned.bits7 : waitsOk earshotlaw05_CrcTurned.T7.2 earshotlaw05_CrcTurned.B7 = true := by kernel_rfl
def earshotlaw05_CrcTurned.T8 : Bool × List (List Nat × List Nat) := (true, [([], []), ([0], [0]), ([1], [1]), ([2, 1], [1, 2]), ([3, 1], [1, 3]), ([4, 1, 1], [1, 4]), ([1], [1]), ([1], [1]), ([6, 7, 1], [1, 6, 7]), ([8, 1], [1, 8]), ([9, 5, 1], [1, 9]), ([1], [1]), ([1], [1]), ([11, 12, 1], [1, 11, 12]), ([13, 1], [1, 13]), ([14, 10, 1], [1, 14]), ([10, 15, 1], [1, 10, 15]), ([1], [1]), ([1], [1]), ([17, 18, 1], [1, 17, 18]), ([19, 1], [1, 19]), ([20, 15, 1], [1, 20]), ([16, 21, 1], [1, 16, 21]), ([5, 22, 1], [1, 5, 22]), ([1, 23], [1, 23]), ([24, 21, 0, 1, 2, 3, 4, 5, 6, 7, 8, 9, 10, 11, 12, 13, 14, 15, 16, 17, 18, 19, 20, 21, 22, 23, 24], [24])])
def earshotlaw05_CrcTurned.B8 : List Nat := [0, 1, 3, 7, 15, 31, 3, 3, 195, 451, 1023, 3, 3, 6147, 14339, 32767, 65535, 3, 3, 393219, 917507, 2031615, 4194303, 8388607, 16777215, 33554431]
theorem earshotlaw05_CrcTurned.tab8 : rtab .any (opsOf Try.f4 8) = earshotlaw05_CrcTurned.T8 := by kernel_rfl
theorem earshotlaw05_CrcTurned.bits8 : waitsOk earshotlaw05_CrcTurned.T8.2 earshotlaw05_CrcTurned.B8 = true := by kernel_rfl
set_option maxHeartbeats 8000000 in
set_option maxRecDepth 100000 in
theorem earshotlaw05_CrcTurned.calls (k : Nat) (a0 : ByteArray) (a1 : ByteArray) (a2 : ByteArray) (r : Bool) (w : World) (h : earshotlaw05_CrcTurned.f k a0 a1 a2 = some r) :
    Calls Try.prog 4 #[.string a0, .string a1, .string a2] w fun e w' => e = .returned (.bool r) ∧ Below w.heap.size w w' := by
  have HB := Aside0.mk (Below.refl w.heap.size w)
  have H : ((earshotlaw05_awake.f).bind fun t105 => (earshotlaw05_CrcTurned.l0 k a0 a1 a2 t105 (mn (a0.size : Int) (mn (a1.size : Int) (mn (a2.size : Int) 60))) ([] : List Int) 0)) = some r := h
  clear h
  replace H := Option.bind_eq_some_iff.mp H
  obtain ⟨t105, A40, H⟩ := H
  replace H : (earshotlaw05_CrcTurned.l0 k a0 a1 a2 t105 (mn (a0.size : Int) (mn (a1.size : Int) (mn (a2.size : Int) 60))) ([] : List Int) 0) = some r := H
  have A4 := Aside0.mk A40
  clear A40
  obtain ⟨ji5, hji5⟩ : ∃ j_ : Int, (mn (a2.size : Int) 60) = j_ := ⟨_, rfl⟩
  replace H : (earshotlaw05_CrcTurned.l0 k a0 a1 a2 t105 (mn (a0.size : Int) (mn (a1.size : Int) (ji5))) ([] : List Int) 0) = some r := by first | (rw [hji5] at H; exact H) | (simp only [hji5] at H ⊢; exact H)
  (try rw [hji5] at A4)
  (try (have hji5h : ji5 ≤ 60 := by (rw [← hji5]; unfold mn; (repeat' split) <;> omega)))
  (try (have hji5g : ji5 ≤ 64 := by omega))
  (try (have hji5l : 0 ≤ ji5 := by (rw [← hji5]; unfold mn; (repeat' split) <;> omega)))
  (try (have hji5m : 0 ≤ ji5 := by omega))
  have hji5_ : (if 60 < (a2.size : Int) then 60 else (a2.size : Int)) = ji5 := hji5
  obtain ⟨ji6, hji6⟩ : ∃ j_ : Int, (mn (a1.size : Int) (ji5)) = j_ := ⟨_, rfl⟩
  replace H : (earshotlaw05_CrcTurned.l0 k a0 a1 a2 t105 (mn (a0.size : Int) (ji6)) ([] : List Int) 0) = some r := by first | (rw [hji6] at H; exact H) | (simp only [hji6] at H ⊢; exact H)
  (try rw [hji6] at A4)
  have hji6_ : (if (ji5) < (a1.size : Int) then (ji5) else (a1.size : Int)) = ji6 := hji6
  obtain ⟨ji7, hji7⟩ : ∃ j_ : Int, (mn (a0.size : Int) (ji6)) = j_ := ⟨_, rfl⟩
  replace H : (earshotlaw05_CrcTurned.l0 k a0 a1 a2 t105 ji7 ([] : List Int) 0) = some r := by first | (rw [hji7] at H; exact H) | (simp only [hji7] at H ⊢; exact H)
  (try rw [hji7] at A4)
  have hji7_ : (if (ji6) < (a0.size : Int) then (ji6) else (a0.size : Int)) = ji7 := hji7
  have H' := Aside0.mk H
  clear H
  go_enter Try.func4, Try.ntmps4
  go_wp2_with (first | ((with_reducible refine gate_callee (f := 13) rfl ?_); refine goesL_ (some 11) rfl rfl Try.func13 (by kernel_rfl) rfl #[] rfl (by (try simp only [List.map_toArray, List.map_cons, List.map_nil]); first | done | rfl | (simp only [List.length_drop, List.length_take]; rfl)) ?_; (with_reducible refine (earshotlaw05_awake.calls  t105 _ A4.out).mono ?_); rintro e w8 ⟨rfl, hb⟩; refine ⟨_, rfl, ?_⟩; have n0_ := Aside0.mk (below_step (by repeat (first | (with_reducible first | exact HB.out | apply below_alloc | apply pw_below_drewN | apply below_drew1) | exact HB.out)) hb); clear HB; have HB := n0_; clear n0_; (try clear hb); (try clear hb2); (try clear hk); (try clear hi)))
  go_loopg [9, 10] k (fun kq v9 v10 w' => ∃ (x9_1 : List Int) (x10_1 : Int), v10 = .int .i64 x10_1 ∧ Aside0 (earshotlaw05_CrcTurned.l0 kq a0 a1 a2 t105 ji7 x9_1 x10_1 = some r) ∧ Aside0 (kq ≤ k) ∧ Aside0 (Kd.R (Kd.int .u8) 5 w' w.heap.size (fun _ => True) v9 x9_1) ∧ Aside0 (Below w.heap.size w w'))
  case atStart => exact ⟨(([] : List Int)), (0), (by first | rfl | (simp; done) | (simp [*]; done)), H', ⟨Nat.le_refl _⟩, ⟨by first | exact Kd.R_nil _ _ _ _ _ | exact Kd.N_nil _ _ _ _ _ | exact Kd.V_nil _ _ _ _ _ | exact Kd.Q_nil _ _ _ _ _ | exact Kd.S_nil _ _ _ _ _⟩, ⟨by repeat (first | (with_reducible first | exact HB.out | apply below_alloc | apply pw_below_drewN | apply below_drew1) | exact HB.out)⟩⟩
  case round =>
    clear H'
    try clear c1
    try clear p2
    try clear c4
    obtain ⟨x9_1, x10_1, rfl, HA, HK1, HO_9, HB⟩ := hrel
    cases gk with
    | zero => exact absurd HA.out (by simp [earshotlaw05_CrcTurned.l0])
    | succ k1 =>
      have H := HA.out
      clear HA
      simp only [earshotlaw05_CrcTurned.l0] at H
      by_cases c9 : x10_1 < ji7
      · rw [if_pos c9] at H
        have c9b0 : decide (x10_1 < ji7) = true := decide_eq_true c9
        clear c9
        by_cases c10 : 0 ≤ x10_1
        · rw [if_pos c10] at H
          have c10b0 : decide (0 ≤ x10_1) = true := decide_eq_true c10
          clear c10
          by_cases c11 : x10_1 < (a0.size : Int)
          · rw [if_pos c11] at H
            have c11b0 : decide (x10_1 < (a0.size : Int)) = true := decide_eq_true c11
            clear c11
            by_cases c13 : x10_1 < (a1.size : Int)
            · rw [if_pos c13] at H
              have c13b0 : decide (x10_1 < (a1.size : Int)) = true := decide_eq_true c13
              clear c13
              by_cases c15 : x10_1 < (a2.size : Int)
              · rw [if_pos c15] at H
                have c15b0 : decide (x10_1 < (a2.size : Int)) = true := decide_eq_true c15
                clear c15
                by_cases c17 : x9_1.length < 140737488355328
                · rw [if_pos c17] at H
                  have LMc17 := Aside0.mk c17
                  clear c17
                  obtain ⟨y106, hy106⟩ : ∃ y_ : List Int, y_ = (x9_1 ++ [Go.bits .xor .u8 (Go.bits .xor .u8 (bt a0 x10_1) (bt a1 x10_1)) (bt a2 x10_1)]) := ⟨_, rfl⟩
                  replace H : (earshotlaw05_CrcTurned.l0 k1 a0 a1 a2 t105 ji7 y106 (wrap64 (x10_1 + 1))) = some r := by first | (rw [hy106]; with_reducible exact H) | (have H2_ := (Option.bind_some _ _).symm.trans H; rw [hy106]; with_reducible exact H2_) | (have H2_ := (Option.bind_some _ _).symm.trans H; with_reducible exact H2_) | with_reducible exact H | (rw [hy106]; exact H) | exact H
                  have Ny106 := Aside0.mk hy106
                  clear hy106
                  have H' := Aside0.mk H
                  clear H
                  try go_wp2
                  have n0_ := Aside0.mk (Kd.R_drew HO_9.out)
                  have n1_ := Aside0.mk (below_drew1 HB.out)
                  clear HO_9
                  clear HB
                  have HO_9 := n0_
                  have HB := n1_
                  clear n0_ n1_
                  have p12 : 0 ≤ (x10_1 : Int) := of_decide_eq_true (by first | (with_reducible assumption) | assumption)
                  have q12 : x10_1 < (a0.size : Int) := of_decide_eq_true (by first | (with_reducible assumption) | assumption)
                  have hx12 := bt_at a0 x10_1
                  replace p12 := eq_true p12
                  replace q12 := eq_true q12
                  have p14 : 0 ≤ (x10_1 : Int) := of_decide_eq_true (by first | (with_reducible assumption) | assumption)
                  have q14 : x10_1 < (a1.size : Int) := of_decide_eq_true (by first | (with_reducible assumption) | assumption)
                  have hx14 := bt_at a1 x10_1
                  replace p14 := eq_true p14
                  replace q14 := eq_true q14
                  have p16 : 0 ≤ (x10_1 : Int) := of_decide_eq_true (by first | (with_reducible assumption) | assumption)
                  have q16 : x10_1 < (a2.size : Int) := of_decide_eq_true (by first | (with_reducible assumption) | assumption)
                  have hx16 := bt_at a2 x10_1
                  replace p16 := eq_true p16
                  replace q16 := eq_true q16
                  refine start_ (n := 15) (S := fun w' => True) (ds := []) #[false, false, false, false, false, false, false, false, false, false, false, false, false, false, false] (by kernel_rfl) rfl rfl trivial (fun hHeld => ?_); refine with_tabW earshotlaw05_CrcTurned.tab7 earshotlaw05_CrcTurned.bits7 (fun HT_ HW_ => ?_)
                  generalize wr.drew = w18 at HO_9 HB hHeld ⊢
                  refine pure_ (i := 0) (N := some 26) (v := ?_) (a' := ?_) #[true, false, false, false, false, false, false, false, false, false, false, false, false, false, false] rfl rfl (any_of HT_.out (by kernel_rfl)) (fun _ _ _ h => h) (Or.inl ⟨by rfl, ?_⟩) ?_ ?_
                  rotate_left
                  · intro w'
                    go_simp
                    with_reducible rfl
                  rotate_left
                  · simp only [Act.put, List.setIfInBounds_toArray, List.set_cons_zero, List.set_cons_succ, i64_w, i32_w]
                    rfl
                  refine pure_ (i := 1) (N := some 27) (v := ?_) (a' := ?_) #[true, true, false, false, false, false, false, false, false, false, false, false, false, false, false] rfl rfl (any_of HT_.out (by kernel_rfl)) (fun _ _ _ h => h) (Or.inl ⟨by rfl, ?_⟩) ?_ ?_
                  rotate_left
                  · intro w'
                    go_simp
                    with_reducible rfl
                  rotate_left
                  · simp only [Act.put, List.setIfInBounds_toArray, List.set_cons_zero, List.set_cons_succ, i64_w, i32_w]
                    rfl
                  refine pure_ (i := 2) (N := some 28) (v := ?_) (a' := ?_) #[true, true, true, false, false, false, false, false, false, false, false, false, false, false, false] rfl rfl (any_of HT_.out (by kernel_rfl)) (fun _ _ _ h => h) (Or.inl ⟨by rfl, ?_⟩) ?_ ?_
                  rotate_left
                  · intro w'
                    go_simp
                    with_reducible rfl
                  rotate_left
                  · simp only [Act.put, List.setIfInBounds_toArray, List.set_cons_zero, List.set_cons_succ, i64_w, i32_w]
                    rfl
                  refine pure_ (i := 4) (N := some 30) (v := ?_) (a' := ?_) #[true, true, true, false, true, false, false, false, false, false, false, false, false, false, false] rfl rfl (any_of HT_.out (by kernel_rfl)) (fun _ _ _ h => h) (Or.inl ⟨by rfl, ?_⟩) ?_ ?_
                  rotate_left
                  · intro w'
                    go_simp
                    with_reducible rfl
                  rotate_left
                  · simp only [Act.put, List.setIfInBounds_toArray, List.set_cons_zero, List.set_cons_succ, i64_w, i32_w]
                    rfl
                  refine pure_ (i := 5) (N := some 31) (v := ?_) (a' := ?_) #[true, true, true, false, true, true, false, false, false, false, false, false, false, false, false] rfl rfl (any_of HT_.out (by kernel_rfl)) (fun _ _ _ h => h) (Or.inl ⟨by rfl, ?_⟩) ?_ ?_
                  rotate_left
                  · intro w'
                    go_simp
                    with_reducible rfl
                  rotate_left
                  · simp only [Act.put, List.setIfInBounds_toArray, List.set_cons_zero, List.set_cons_succ, i64_w, i32_w]
                    rfl
                  refine pure_ (i := 8) (N := some 34) (v := ?_) (a' := ?_) #[true, true, true, false, true, true, false, false, true, false, false, false, false, false, false] rfl rfl (any_of HT_.out (by kernel_rfl)) (fun _ _ _ h => h) (Or.inl ⟨by rfl, ?_⟩) ?_ ?_
                  rotate_left
                  · intro w'
                    go_simp
                    with_reducible rfl
                  rotate_left
                  · simp only [Act.put, List.setIfInBounds_toArray, List.set_cons_zero, List.set_cons_succ, i64_w, i32_w]
                    rfl
                  refine pure_ (i := 9) (N := some 35) (v := ?_) (a' := ?_) #[true, true, true, false, true, true, false, false, true, true, false, false, false, false, false] rfl rfl (any_of HT_.out (by kernel_rfl)) (fun _ _ _ h => h) (Or.inl ⟨by rfl, ?_⟩) ?_ ?_
                  rotate_left
                  · intro w'
                    go_simp
                    with_reducible rfl
                  rotate_left
                  · simp only [Act.put, List.setIfInBounds_toArray, List.set_cons_zero, List.set_cons_succ, i64_w, i32_w]
                    rfl
                  refine take_ (i := 3) (N := some 29) (v := ?_) (a' := ?_) #[true, true, true, true, true, true, false, false, true, true, false, false, false, false, false] rfl rfl (take_ofW HT_.out HW_.out (by kernel_rfl)) (fun _ _ _ h => h) (Or.inl ⟨by rfl, ?_⟩) hHeld ?_ ?_
                  rotate_left
                  · intro w' _
                    go_simp
                    with_reducible rfl
                  rotate_left
                  · simp only [Act.put, List.setIfInBounds_toArray, List.set_cons_zero, List.set_cons_succ, i64_w, i32_w]
                    rfl
                  refine take_ (i := 6) (N := some 32) (v := ?_) (a' := ?_) #[true, true, true, true, true, true, true, false, true, true, false, false, false, false, false] rfl rfl (take_ofW HT_.out HW_.out (by kernel_rfl)) (fun _ _ _ h => h) (Or.inl ⟨by rfl, ?_⟩) hHeld ?_ ?_
                  rotate_left
                  · intro w' _
                    go_simp
                    with_reducible rfl
                  rotate_left
                  · simp only [Act.put, List.setIfInBounds_toArray, List.set_cons_zero, List.set_cons_succ, i64_w, i32_w]
                    rfl
                  refine pure_ (i := 7) (N := some 33) (v := ?_) (a' := ?_) #[true, true, true, true, true, true, true, true, true, true, false, false, false, false, false] rfl rfl (any_of HT_.out (by kernel_rfl)) (fun _ _ _ h => h) (Or.inl ⟨by rfl, ?_⟩) ?_ ?_
                  rotate_left
                  · intro w'
                    go_simp
                    with_reducible rfl
                  rotate_left
                  · simp only [Act.put, List.setIfInBounds_toArray, List.set_cons_zero, List.set_cons_succ, i64_w, i32_w]
                    rfl
                  refine take_ (i := 10) (N := some 36) (v := ?_) (a' := ?_) #[true, true, true, true, true, true, true, true, true, true, true, false, false, false, false] rfl rfl (take_ofW HT_.out HW_.out (by kernel_rfl)) (fun _ _ _ h => h) (Or.inl ⟨by rfl, ?_⟩) hHeld ?_ ?_
                  rotate_left
                  · intro w' _
                    go_simp
                    with_reducible rfl
                  rotate_left
                  · simp only [Act.put, List.setIfInBounds_toArray, List.set_cons_zero, List.set_cons_succ, i64_w, i32_w]
                    rfl
                  refine pure_ (i := 11) (N := some 37) (v := ?_) (a' := ?_) #[true, true, true, true, true, true, true, true, true, true, true, true, false, false, false] rfl rfl (any_of HT_.out (by kernel_rfl)) (fun _ _ _ h => h) (Or.inl ⟨by rfl, ?_⟩) ?_ ?_
                  rotate_left
                  · intro w'
                    go_simp
                    with_reducible rfl
                  rotate_left
                  · simp only [Act.put, List.setIfInBounds_toArray, List.set_cons_zero, List.set_cons_succ, i64_w, i32_w]
                    rfl
                  refine one_ (i := 12) (N := some 38) #[true, true, true, true, true, true, true, true, true, true, true, true, true, false, false] rfl rfl (one_of HT_.out (by kernel_rfl)) (by decide) (fun K hK => ?_)
                  refine value_ (w1 := ?_) (v := ?_) (by rfl) rfl ?_ ?_
                  rotate_left 2
                  · go_simp
                    constructor
                    · rfl
                    · rfl
                  refine hK.out _ _ trivial (fun hHeld => ?_)
                  clear hK K
                  refine norm_ (a' := ?_) ?_ ?_
                  rotate_left
                  · show Act.put _ (some 38) _ = _
                    simp only [Act.put, List.setIfInBounds_toArray, List.set_cons_zero, List.set_cons_succ, i64_w, i32_w]
                    rfl
                  refine one_ (i := 13) (N := some 39) #[true, true, true, true, true, true, true, true, true, true, true, true, true, true, false] rfl rfl (one_of HT_.out (by kernel_rfl)) (by decide) (fun K hK => ?_)
                  refine Kd.R_append_step (Kd.int .u8) (w0 := w) w.heap.size (by rfl) (.tmp 26) (.tmp 38) 28 5 (.int .u8 0) 1 rfl Try.underlying28 info5 rfl (by decide) (by omega) u9 x9_1 (Go.bits .xor .u8 (Go.bits .xor .u8 (bt a0 x10_1) (bt a1 x10_1)) (bt a2 x10_1)) [.int .u8 (Go.bits .xor .u8 (Go.bits .xor .u8 (bt a0 x10_1) (bt a1 x10_1)) (bt a2 x10_1))] (fun _ => True) (fun _ => False) rfl rfl ?aP (fun _ hk => hk.elim) ?aF ?aO ?aB ?aS ?aL ?_
                  (case aP => exact rfl)
                  (case aB => exact (by repeat (first | (with_reducible first | exact HB.out | apply below_alloc | apply pw_below_drewN | apply below_drew1) | exact HB.out)))
                  (case aF => exact (fun _ _ => trivial))
                  (case aO => exact (by (with_reducible repeat (first | apply Kd.R_alloc | apply Kd.R_drewN | apply Kd.R_drew)); (first | exact HO_9.out | exact Kd.R_mono HO_9.out (fun _ _ => trivial) | exact Kd.R_mono HO_9.out (fun _ hk => hk.1))))
                  (case aS => exact (below_size (by repeat (first | (with_reducible first | exact HB.out | apply below_alloc | apply pw_below_drewN | apply below_drew1) | exact HB.out))))
                  (case aL => have := LMc17.out; omega)
                  intro v107 w19 ho hb hg hat
                  rw [← Ny106.out] at ho
                  have n0_ := Aside0.mk (hb)
                  have n1_ := Aside0.mk (ho)
                  clear HB
                  clear HO_9
                  have HB := n0_
                  have HO108 := n1_
                  clear n0_ n1_
                  clear ho hb hg hat
                  refine hK.out _ _ trivial (fun hHeld => ?_)
                  clear hK K
                  refine norm_ (a' := ?_) ?_ ?_
                  rotate_left
                  · show Act.put _ (some 39) _ = _
                    simp only [Act.put, List.setIfInBounds_toArray, List.set_cons_zero, List.set_cons_succ, i64_w, i32_w]
                    rfl
                  refine pure_ (i := 14) (N := some 9) (v := ?_) (a' := ?_) #[true, true, true, true, true, true, true, true, true, true, true, true, true, true, true] rfl rfl (any_of HT_.out (by kernel_rfl)) (fun _ _ _ h => h) (Or.inl ⟨by rfl, ?_⟩) ?_ ?_
                  rotate_left
                  · intro w'
                    go_simp
                    with_reducible rfl
                  rotate_left
                  · simp only [Act.put, List.setIfInBounds_toArray, List.set_cons_zero, List.set_cons_succ, i64_w, i32_w]
                    rfl
                  refine done_ (done_of HT_.out (by kernel_rfl)) ?_
                  try go_wp2
                  go_roundg k1
                  case measure => have := HK1.out; omega
                  case rel => exact ⟨(y106), (wrap64 (x10_1 + 1)), (by first | rfl | (simp; done) | (simp [*]; done)), H', ⟨by have := HK1.out; omega⟩, ⟨by (with_reducible repeat (first | apply Kd.R_alloc | apply Kd.R_drewN | apply Kd.R_drew)); exact HO108.out⟩, ⟨by repeat (first | (with_reducible first | exact HB.out | apply below_alloc | apply pw_below_drewN | apply below_drew1) | exact HB.out)⟩⟩
                · rw [if_neg c17] at H
                  exact absurd H (by simp)
              · rw [if_neg c15] at H
                exact absurd H (by simp)
            · rw [if_neg c13] at H
              exact absurd H (by simp)
          · rw [if_neg c11] at H
            exact absurd H (by simp)
        · rw [if_neg c10] at H
          exact absurd H (by simp)
      · rw [if_neg c9] at H
        have c9b0 : decide (x10_1 < ji7) = false := decide_eq_false c9
        clear c9
        by_cases c20 : t105 = true
        · subst c20
          have H1 : ((crc_Sum.f (([strOfNums x9_1] : List ByteArray))).bind fun t112 => (if 0 ≤ ji7 then (if ji7 ≤ (a0.size : Int) then ((crc_Sum.f (([a0.extract 0 (ji7 : Int).toNat] : List ByteArray))).bind fun t116 => (if ji7 ≤ (a1.size : Int) then ((crc_Sum.f (([a1.extract 0 (ji7 : Int).toNat] : List ByteArray))).bind fun t120 => (if ji7 ≤ (a2.size : Int) then ((crc_Sum.f (([a2.extract 0 (ji7 : Int).toNat] : List ByteArray))).bind fun t124 => (some (t112 == (Go.bits .xor .u32 (Go.bits .xor .u32 t116 t120) t124)))) else (none))) else (none))) else (none)) else (none))) = some r := by rw [if_pos rfl] at H; exact H
          clear H
          have H := H1
          clear H1
          obtain ⟨y109, hy109⟩ : ∃ y_ : List ByteArray, y_ = (([strOfNums x9_1] : List ByteArray)) := ⟨_, rfl⟩
          replace H : ((crc_Sum.f y109).bind fun t112 => (if 0 ≤ ji7 then (if ji7 ≤ (a0.size : Int) then ((crc_Sum.f (([a0.extract 0 (ji7 : Int).toNat] : List ByteArray))).bind fun t116 => (if ji7 ≤ (a1.size : Int) then ((crc_Sum.f (([a1.extract 0 (ji7 : Int).toNat] : List ByteArray))).bind fun t120 => (if ji7 ≤ (a2.size : Int) then ((crc_Sum.f (([a2.extract 0 (ji7 : Int).toNat] : List ByteArray))).bind fun t124 => (some (t112 == (Go.bits .xor .u32 (Go.bits .xor .u32 t116 t120) t124)))) else (none))) else (none))) else (none)) else (none))) = some r := by first | (rw [hy109]; with_reducible exact H) | (have H2_ := (Option.bind_some _ _).symm.trans H; rw [hy109]; with_reducible exact H2_) | (have H2_ := (Option.bind_some _ _).symm.trans H; with_reducible exact H2_) | with_reducible exact H | (rw [hy109]; exact H) | exact H
          have Ny109 := Aside0.mk hy109
          clear hy109
          replace H := Option.bind_eq_some_iff.mp H
          obtain ⟨t112, A210, H⟩ := H
          replace H : (if 0 ≤ ji7 then (if ji7 ≤ (a0.size : Int) then ((crc_Sum.f (([a0.extract 0 (ji7 : Int).toNat] : List ByteArray))).bind fun t116 => (if ji7 ≤ (a1.size : Int) then ((crc_Sum.f (([a1.extract 0 (ji7 : Int).toNat] : List ByteArray))).bind fun t120 => (if ji7 ≤ (a2.size : Int) then ((crc_Sum.f (([a2.extract 0 (ji7 : Int).toNat] : List ByteArray))).bind fun t124 => (some (t112 == (Go.bits .xor .u32 (Go.bits .xor .u32 t116 t120) t124)))) else (none))) else (none))) else (none)) else (none)) = some r := H
          have A21 := Aside0.mk A210
          clear A210
          by_cases c22 : 0 ≤ ji7
          · rw [if_pos c22] at H
            have c22b0 := eq_true c22
            have c22b1 : decide (0 ≤ ji7) = true := decide_eq_true c22
            clear c22
            by_cases c23 : ji7 ≤ (a0.size : Int)
            · rw [if_pos c23] at H
              have c23b0 := eq_true c23
              have c23b1 : decide (ji7 ≤ (a0.size : Int)) = true := decide_eq_true c23
              clear c23
              obtain ⟨y113, hy113⟩ : ∃ y_ : List ByteArray, y_ = (([a0.extract 0 (ji7 : Int).toNat] : List ByteArray)) := ⟨_, rfl⟩
              replace H : ((crc_Sum.f y113).bind fun t116 => (if ji7 ≤ (a1.size : Int) then ((crc_Sum.f (([a1.extract 0 (ji7 : Int).toNat] : List ByteArray))).bind fun t120 => (if ji7 ≤ (a2.size : Int) then ((crc_Sum.f (([a2.extract 0 (ji7 : Int).toNat] : List ByteArray))).bind fun t124 => (some (t112 == (Go.bits .xor .u32 (Go.bits .xor .u32 t116 t120) t124)))) else (none))) else (none))) = some r := by first | (rw [hy113]; with_reducible exact H) | (have H2_ := (Option.bind_some _ _).symm.trans H; rw [hy113]; with_reducible exact H2_) | (have H2_ := (Option.bind_some _ _).symm.trans H; with_reducible exact H2_) | with_reducible exact H | (rw [hy113]; exact H) | exact H
              have Ny113 := Aside0.mk hy113
              clear hy113
              replace H := Option.bind_eq_some_iff.mp H
              obtain ⟨t116, A240, H⟩ := H
              replace H : (if ji7 ≤ (a1.size : Int) then ((crc_Sum.f (([a1.extract 0 (ji7 : Int).toNat] : List ByteArray))).bind fun t120 => (if ji7 ≤ (a2.size : Int) then ((crc_Sum.f (([a2.extract 0 (ji7 : Int).toNat] : List ByteArray))).bind fun t124 => (some (t112 == (Go.bits .xor .u32 (Go.bits .xor .u32 t116 t120) t124)))) else (none))) else (none)) = some r := H
              have A24 := Aside0.mk A240
              clear A240
              have c25b0 := eq_true (of_decide_eq_true (by first | (with_reducible assumption) | assumption) : 0 ≤ ji7)
              by_cases c26 : ji7 ≤ (a1.size : Int)
              · rw [if_pos c26] at H
                have c26b0 := eq_true c26
                have c26b1 : decide (ji7 ≤ (a1.size : Int)) = true := decide_eq_true c26
                clear c26
                obtain ⟨y117, hy117⟩ : ∃ y_ : List ByteArray, y_ = (([a1.extract 0 (ji7 : Int).toNat] : List ByteArray)) := ⟨_, rfl⟩
                replace H : ((crc_Sum.f y117).bind fun t120 => (if ji7 ≤ (a2.size : Int) then ((crc_Sum.f (([a2.extract 0 (ji7 : Int).toNat] : List ByteArray))).bind fun t124 => (some (t112 == (Go.bits .xor .u32 (Go.bits .xor .u32 t116 t120) t124)))) else (none))) = some r := by first | (rw [hy117]; with_reducible exact H) | (have H2_ := (Option.bind_some _ _).symm.trans H; rw [hy117]; with_reducible exact H2_) | (have H2_ := (Option.bind_some _ _).symm.trans H; with_reducible exact H2_) | with_reducible exact H | (rw [hy117]; exact H) | exact H
                have Ny117 := Aside0.mk hy117
                clear hy117
                replace H := Option.bind_eq_some_iff.mp H
                obtain ⟨t120, A270, H⟩ := H
                replace H : (if ji7 ≤ (a2.size : Int) then ((crc_Sum.f (([a2.extract 0 (ji7 : Int).toNat] : List ByteArray))).bind fun t124 => (some (t112 == (Go.bits .xor .u32 (Go.bits .xor .u32 t116 t120) t124)))) else (none)) = some r := H
                have A27 := Aside0.mk A270
                clear A270
                have c28b0 := eq_true (of_decide_eq_true (by first | (with_reducible assumption) | assumption) : 0 ≤ ji7)
                by_cases c29 : ji7 ≤ (a2.size : Int)
                · rw [if_pos c29] at H
                  have c29b0 := eq_true c29
                  have c29b1 : decide (ji7 ≤ (a2.size : Int)) = true := decide_eq_true c29
                  clear c29
                  obtain ⟨y121, hy121⟩ : ∃ y_ : List ByteArray, y_ = (([a2.extract 0 (ji7 : Int).toNat] : List ByteArray)) := ⟨_, rfl⟩
                  replace H : ((crc_Sum.f y121).bind fun t124 => (some (t112 == (Go.bits .xor .u32 (Go.bits .xor .u32 t116 t120) t124)))) = some r := by first | (rw [hy121]; with_reducible exact H) | (have H2_ := (Option.bind_some _ _).symm.trans H; rw [hy121]; with_reducible exact H2_) | (have H2_ := (Option.bind_some _ _).symm.trans H; with_reducible exact H2_) | with_reducible exact H | (rw [hy121]; exact H) | exact H
                  have Ny121 := Aside0.mk hy121
                  clear hy121
                  replace H := Option.bind_eq_some_iff.mp H
                  obtain ⟨t124, A300, H⟩ := H
                  replace H : (some (t112 == (Go.bits .xor .u32 (Go.bits .xor .u32 t116 t120) t124))) = some r := H
                  have A30 := Aside0.mk A300
                  clear A300
                  obtain rfl := Option.some.inj H
                  try go_wp2
                  have n0_ := Aside0.mk (Kd.R_drew HO_9.out)
                  have n1_ := Aside0.mk (below_drew1 HB.out)
                  clear HO_9
                  clear HB
                  have HO_9 := n0_
                  have HB := n1_
                  clear n0_ n1_
                  refine start_ (n := 26) (S := fun w' => True) (ds := []) #[false, false, false, false, false, false, false, false, false, false, false, false, false, false, false, false, false, false, false, false, false, false, false, false, false, false] (by kernel_rfl) rfl rfl trivial (fun hHeld => ?_); refine with_tabW earshotlaw05_CrcTurned.tab8 earshotlaw05_CrcTurned.bits8 (fun HT_ HW_ => ?_)
                  generalize wr.drew = w31 at HO_9 HB hHeld ⊢
                  refine pure_ (i := 0) (N := some 40) (v := ?_) (a' := ?_) #[true, false, false, false, false, false, false, false, false, false, false, false, false, false, false, false, false, false, false, false, false, false, false, false, false, false] rfl rfl (any_of HT_.out (by kernel_rfl)) (fun _ _ _ h => h) (Or.inl ⟨by rfl, ?_⟩) ?_ ?_
                  rotate_left
                  · intro w'
                    go_simp
                    with_reducible rfl
                  rotate_left
                  · simp only [Act.put, List.setIfInBounds_toArray, List.set_cons_zero, List.set_cons_succ, i64_w, i32_w]
                    rfl
                  refine pure_ (i := 1) (N := some 41) (v := ?_) (a' := ?_) #[true, true, false, false, false, false, false, false, false, false, false, false, false, false, false, false, false, false, false, false, false, false, false, false, false, false] rfl rfl (any_of HT_.out (by kernel_rfl)) (fun _ _ _ h => h) (Or.inl ⟨by rfl, ?_⟩) ?_ ?_
                  rotate_left
                  · intro w'
                    go_simp
                    with_reducible rfl
                  rotate_left
                  · simp only [Act.put, List.setIfInBounds_toArray, List.set_cons_zero, List.set_cons_succ, i64_w, i32_w]
                    rfl
                  refine pure_ (i := 2) (N := some 42) (v := ?_) (a' := ?_) #[true, true, true, false, false, false, false, false, false, false, false, false, false, false, false, false, false, false, false, false, false, false, false, false, false, false] rfl rfl (any_of HT_.out (by kernel_rfl)) (fun _ _ _ h => h) (Or.inl ⟨by rfl, ?_⟩) ?_ ?_
                  rotate_left
                  · intro w'
                    go_simp
                    with_reducible rfl
                  rotate_left
                  · simp only [Act.put, List.setIfInBounds_toArray, List.set_cons_zero, List.set_cons_succ, i64_w, i32_w]
                    rfl
                  refine pure_ (i := 6) (N := some 46) (v := ?_) (a' := ?_) #[true, true, true, false, false, false, true, false, false, false, false, false, false, false, false, false, false, false, false, false, false, false, false, false, false, false] rfl rfl (any_of HT_.out (by kernel_rfl)) (fun _ _ _ h => h) (Or.inl ⟨by rfl, ?_⟩) ?_ ?_
                  rotate_left
                  · intro w'
                    go_simp
                    with_reducible rfl
                  rotate_left
                  · simp only [Act.put, List.setIfInBounds_toArray, List.set_cons_zero, List.set_cons_succ, i64_w, i32_w]
                    rfl
                  refine pure_ (i := 7) (N := some 47) (v := ?_) (a' := ?_) #[true, true, true, false, false, false, true, true, false, false, false, false, false, false, false, false, false, false, false, false, false, false, false, false, false, false] rfl rfl (any_of HT_.out (by kernel_rfl)) (fun _ _ _ h => h) (Or.inl ⟨by rfl, ?_⟩) ?_ ?_
                  rotate_left
                  · intro w'
                    go_simp
                    with_reducible rfl
                  rotate_left
                  · simp only [Act.put, List.setIfInBounds_toArray, List.set_cons_zero, List.set_cons_succ, i64_w, i32_w]
                    rfl
                  refine pure_ (i := 11) (N := some 51) (v := ?_) (a' := ?_) #[true, true, true, false, false, false, true, true, false, false, false, true, false, false, false, false, false, false, false, false, false, false, false, false, false, false] rfl rfl (any_of HT_.out (by kernel_rfl)) (fun _ _ _ h => h) (Or.inl ⟨by rfl, ?_⟩) ?_ ?_
                  rotate_left
                  · intro w'
                    go_simp
                    with_reducible rfl
                  rotate_left
                  · simp only [Act.put, List.setIfInBounds_toArray, List.set_cons_zero, List.set_cons_succ, i64_w, i32_w]
                    rfl
                  refine pure_ (i := 12) (N := some 52) (v := ?_) (a' := ?_) #[true, true, true, false, false, false, true, true, false, false, false, true, true, false, false, false, false, false, false, false, false, false, false, false, false, false] rfl rfl (any_of HT_.out (by kernel_rfl)) (fun _ _ _ h => h) (Or.inl ⟨by rfl, ?_⟩) ?_ ?_
                  rotate_left
                  · intro w'
                    go_simp
                    with_reducible rfl
                  rotate_left
                  · simp only [Act.put, List.setIfInBounds_toArray, List.set_cons_zero, List.set_cons_succ, i64_w, i32_w]
                    rfl
                  refine pure_ (i := 17) (N := some 57) (v := ?_) (a' := ?_) #[true, true, true, false, false, false, true, true, false, false, false, true, true, false, false, false, false, true, false, false, false, false, false, false, false, false] rfl rfl (any_of HT_.out (by kernel_rfl)) (fun _ _ _ h => h) (Or.inl ⟨by rfl, ?_⟩) ?_ ?_
                  rotate_left
                  · intro w'
                    go_simp
                    with_reducible rfl
                  rotate_left
                  · simp only [Act.put, List.setIfInBounds_toArray, List.set_cons_zero, List.set_cons_succ, i64_w, i32_w]
                    rfl
                  refine pure_ (i := 18) (N := some 58) (v := ?_) (a' := ?_) #[true, true, true, false, false, false, true, true, false, false, false, true, true, false, false, false, false, true, true, false, false, false, false, false, false, false] rfl rfl (any_of HT_.out (by kernel_rfl)) (fun _ _ _ h => h) (Or.inl ⟨by rfl, ?_⟩) ?_ ?_
                  rotate_left
                  · intro w'
                    go_simp
                    with_reducible rfl
                  rotate_left
                  · simp only [Act.put, List.setIfInBounds_toArray, List.set_cons_zero, List.set_cons_succ, i64_w, i32_w]
                    rfl
                  refine inv_at [3, 4, 5, 8, 9, 10, 13, 14, 15, 16, 19, 20, 21, 22, 23, 24, 25] (fun a0_ b a w' => ∃ (v110 : Value) (v114 : Value) (v118 : Value) (v122 : Value), a = putSel a0_ b [(3, 43, .string (strOfNums x9_1)), (4, 44, v110), (5, 45, .int .u32 t112), (8, 48, .string (a0.extract 0 (ji7 : Int).toNat)), (9, 49, v114), (10, 50, .int .u32 t116), (13, 53, .string (a1.extract 0 (ji7 : Int).toNat)), (14, 54, v118), (15, 55, .int .u32 t120), (16, 56, .int .u32 (Go.bits .xor .u32 t116 t120)), (19, 59, .string (a2.extract 0 (ji7 : Int).toNat)), (20, 60, v122), (21, 61, .int .u32 t124), (22, 62, .int .u32 (Go.bits .xor .u32 (Go.bits .xor .u32 t116 t120) t124)), (23, 63, .bool (t112 == (Go.bits .xor .u32 (Go.bits .xor .u32 t116 t120) t124))), (24, 64, .bool (t112 == (Go.bits .xor .u32 (Go.bits .xor .u32 t116 t120) t124))), (25, 6, .bool (t112 == (Go.bits .xor .u32 (Go.bits .xor .u32 t116 t120) t124)))] ∧ (Kd.R (Kd.int .u8) 5 w' w.heap.size (fun _ => True) u9 x9_1) ∧ (Below w.heap.size w w') ∧ (b 4 = true → Kd.R Kd.string 9 w' w.heap.size (fun _ => True) v110 y109) ∧ (b 9 = true → Kd.R Kd.string 9 w' w.heap.size (fun _ => True) v114 y113) ∧ (b 14 = true → Kd.R Kd.string 9 w' w.heap.size (fun _ => True) v118 y117) ∧ (b 20 = true → Kd.R Kd.string 9 w' w.heap.size (fun _ => True) v122 y121)) HT_.out HW_.out (by kernel_rfl) (by kernel_rfl) ?_ ?_ ?_
                  · exact ⟨.bool false, .bool false, .bool false, .bool false, by simp only [putSel, Bool.false_eq_true, if_false], HO_9.out, HB.out, fun h_ => absurd h_ (by decide), fun h_ => absurd h_ (by decide), fun h_ => absurd h_ (by decide), fun h_ => absurd h_ (by decide)⟩
                  · skip
                    clear HB HO_9
                    refine steps_cons ?_ ?_
                    · rintro b a w' ⟨v110, v114, v118, v122, ha, Q_HO_9, Q_HB, Q_HO111, Q_HO115, Q_HO119, Q_HO123⟩ hb_ hon hoff
                      refine ⟨_, rfl, fun K hK => ?_⟩
                      have e42 : a.tmps[42]? = some (u9) := by rw [ha]; exact (putSel_off rfl).trans rfl
                      have e41 : a.tmps[41]? = some (.bool true) := by rw [ha]; exact (putSel_off rfl).trans rfl
                      replace ha := Aside0.mk ha
                      have HO_9 := Aside0.mk Q_HO_9
                      have HB := Aside0.mk Q_HB
                      have hcv32 := own_string (P := Try.prog) Try.underlying28 Try.underlying5 Try.underlying9 (Kd.own_of_R HO_9.out)
                      refine value_ (w1 := w') (v := .string (strOfNums x9_1)) (wanted_on rfl rfl rfl (e41.trans (by first | rfl | (simp [*]; done)))) rfl ?_ ?_
                      · go_simp
                        (try simp only [i64_w])
                        try rfl
                      refine hK.out _ _ ⟨v110, v114, v118, v122, (by rw [ha.out]; exact putSel_upk 0 hb_ rfl rfl rfl), Q_HO_9, Q_HB, fun h0_ => absurd ((hoff 4 (by kernel_rfl)).symm.trans h0_) (by decide), Q_HO115, Q_HO119, Q_HO123⟩
                    refine steps_cons ?_ ?_
                    · rintro b a w' ⟨v110, v114, v118, v122, ha, Q_HO_9, Q_HB, Q_HO111, Q_HO115, Q_HO119, Q_HO123⟩ hb_ hon hoff
                      refine ⟨_, rfl, fun K hK => ?_⟩
                      have e43 : a.tmps[43]? = some (.string (strOfNums x9_1)) := by rw [ha]; exact putSel_on (e := (3, 43, .string (strOfNums x9_1))) 0 rfl rfl (hon 3 (by kernel_rfl)) rfl
                      have e41 : a.tmps[41]? = some (.bool true) := by rw [ha]; exact (putSel_off rfl).trans rfl
                      replace ha := Aside0.mk ha
                      have HO_9 := Aside0.mk Q_HO_9
                      have HB := Aside0.mk Q_HB
                      refine Kd.R_lit_step Kd.string _ 9 ?hg (N := 44) ?hd (xs := ([strOfNums x9_1] : List ByteArray)) (inner := [.string (strOfNums x9_1)]) (ok := fun _ => True) (okp := fun _ => True) ?hr ?hp (fun _ hk => hk) trivial (Below.refl _ _) (Nat.le_refl _) (by simp) ?_; (case hd => rfl); (case hg => first | rfl | exact wanted_on rfl rfl rfl (by first | assumption | rfl | (simp [*]; done))); (case hr => first | (go_simp; done) | (go_simp; rfl)); (case hp => exact (Reps.one (show Kd.M Kd.string _ _ _ (strOfNums x9_1) [.string (strOfNums x9_1)] from rfl) (Reps.none _ _)))
                      intro v110 w33 ho34 hb hg_ hnew_
                      clear hg_ hnew_
                      (first | rw [← Ny109.out] at ho34 | (simp only [Int.reduceToNat] at ho34; rw [← Ny109.out] at ho34))
                      have n0_ := Aside0.mk (Kd.R_below (by (with_reducible repeat (first | apply Kd.R_alloc | apply Kd.R_drewN | apply Kd.R_drew)); (first | exact HO_9.out | exact Kd.R_mono HO_9.out (fun _ _ => trivial) | exact Kd.R_mono HO_9.out (fun _ hk => hk.1))) hb)
                      have n1_ := Aside0.mk (Kd.R_lower ho34 (below_size (by repeat (first | (with_reducible first | exact HB.out | apply below_alloc | apply pw_below_drewN | apply below_drew1) | exact HB.out))))
                      have n2_ := Aside0.mk (below_step (by repeat (first | (with_reducible first | exact HB.out | apply below_alloc | apply pw_below_drewN | apply below_drew1) | exact HB.out)) hb)
                      have z_HO115 := fun (h0_ : b 9 = true) => (show Kd.R Kd.string 9 w33 w.heap.size (fun _ => True) v114 y113 from by first | exact (Kd.R_elder' (by (with_reducible repeat (first | apply Kd.R_alloc | apply Kd.R_drewN | apply Kd.R_drew)); exact (Q_HO115 h0_)) (Kd.R_base ho34) hb) | exact Kd.R_mono (Kd.R_elder' (by (with_reducible repeat (first | apply Kd.R_alloc | apply Kd.R_drewN | apply Kd.R_drew)); exact (Q_HO115 h0_)) (Kd.R_base ho34) hb) (fun _ h_ => by first | trivial | exact h_ | exact h_.1))
                      have z_HO119 := fun (h0_ : b 14 = true) => (show Kd.R Kd.string 9 w33 w.heap.size (fun _ => True) v118 y117 from by first | exact (Kd.R_elder' (by (with_reducible repeat (first | apply Kd.R_alloc | apply Kd.R_drewN | apply Kd.R_drew)); exact (Q_HO119 h0_)) (Kd.R_base ho34) hb) | exact Kd.R_mono (Kd.R_elder' (by (with_reducible repeat (first | apply Kd.R_alloc | apply Kd.R_drewN | apply Kd.R_drew)); exact (Q_HO119 h0_)) (Kd.R_base ho34) hb) (fun _ h_ => by first | trivial | exact h_ | exact h_.1))
                      have z_HO123 := fun (h0_ : b 20 = true) => (show Kd.R Kd.string 9 w33 w.heap.size (fun _ => True) v122 y121 from by first | exact (Kd.R_elder' (by (with_reducible repeat (first | apply Kd.R_alloc | apply Kd.R_drewN | apply Kd.R_drew)); exact (Q_HO123 h0_)) (Kd.R_base ho34) hb) | exact Kd.R_mono (Kd.R_elder' (by (with_reducible repeat (first | apply Kd.R_alloc | apply Kd.R_drewN | apply Kd.R_drew)); exact (Q_HO123 h0_)) (Kd.R_base ho34) hb) (fun _ h_ => by first | trivial | exact h_ | exact h_.1))
                      clear HO_9
                      clear HB
                      have HO_9 := n0_
                      have HO111 := n1_
                      have HB := n2_
                      clear n0_ n1_ n2_
                      clear hb ho34
                      refine hK.out _ _ ⟨v110, v114, v118, v122, (by rw [ha.out]; exact putSel_upk 1 hb_ rfl rfl rfl), (by (with_reducible repeat (first | apply Kd.R_alloc | apply Kd.R_drewN | apply Kd.R_drew)); (first | exact HO_9.out | exact Kd.R_mono HO_9.out (fun _ _ => trivial) | exact Kd.R_mono HO_9.out (fun _ hk => hk.1))), (by repeat (first | (with_reducible first | exact HB.out | apply below_alloc | apply pw_below_drewN | apply below_drew1) | exact HB.out)), fun _ => (by (with_reducible repeat (first | apply Kd.R_alloc | apply Kd.R_drewN | apply Kd.R_drew)); (first | exact HO111.out | exact Kd.R_mono HO111.out (fun _ _ => trivial) | exact Kd.R_mono HO111.out (fun _ hk => hk.1))), z_HO115, z_HO119, z_HO123⟩
                    refine steps_cons ?_ ?_
                    · rintro b a w' ⟨v110, v114, v118, v122, ha, Q_HO_9, Q_HB, Q_HO111, Q_HO115, Q_HO119, Q_HO123⟩ hb_ hon hoff
                      refine ⟨_, rfl, fun K hK => ?_⟩
                      have e44 : a.tmps[44]? = some (v110) := by rw [ha]; exact putSel_on (e := (4, 44, v110)) 1 rfl rfl (hon 4 (by kernel_rfl)) rfl
                      have e41 : a.tmps[41]? = some (.bool true) := by rw [ha]; exact (putSel_off rfl).trans rfl
                      replace ha := Aside0.mk ha
                      have HO_9 := Aside0.mk Q_HO_9
                      have HB := Aside0.mk Q_HB
                      have HO111 := Aside0.mk (Q_HO111 (hon 4 (by kernel_rfl)))
                      obtain ⟨Ao36, co36, eo36⟩ := Kd.R_slice HO111.out
                      (first | subst eo36 | (injection eo36 with f1_ f2_ f3_; have f4_ := f1_.symm; have f5_ := f3_.symm; clear f1_ f2_ f3_; subst f4_; subst f5_))
                      refine goes_ Try.func15 (by kernel_rfl) rfl #[.slice Ao36 y109.length co36] (by first | rfl | exact wanted_on rfl rfl rfl (by first | assumption | rfl | (simp [*]; done))) rfl rfl (by first | (simp only [List.map_toArray, List.map_cons, List.map_nil, Act.eval, Array.getD_eq_getD_getElem?, Option.getD_some, e44, e41]; done) | (simp only [List.map_toArray, List.map_cons, List.map_nil, Act.eval, Array.getD_eq_getD_getElem?, Option.getD_some, e44, e41]; rfl)) ?_
                      with_reducible refine (crc_Sum.calls _ _ y109 t112 _ ?side1 ?side2 A21.out).mono ?_
                      (case side1 => repeat (first | exact (Kd.R_reads' HO111.out).2.2 | (with_reducible refine Kd.C_alloc ?_ _) | (with_reducible refine Kd.C_drewN ?_ _) | (with_reducible refine Kd.C_drew ?_)))
                      (case side2 => exact (Kd.R_reads' HO111.out).2.1)
                      rintro e w37 ⟨rfl, hb⟩
                      refine ⟨_, rfl, ?_⟩
                      have n0_ := Aside0.mk (Kd.R_below (by (with_reducible repeat (first | apply Kd.R_alloc | apply Kd.R_drewN | apply Kd.R_drew)); (first | exact HO_9.out | exact Kd.R_mono HO_9.out (fun _ _ => trivial) | exact Kd.R_mono HO_9.out (fun _ hk => hk.1))) hb)
                      have n1_ := Aside0.mk (Kd.R_below (by (with_reducible repeat (first | apply Kd.R_alloc | apply Kd.R_drewN | apply Kd.R_drew)); (first | exact HO111.out | exact Kd.R_mono HO111.out (fun _ _ => trivial) | exact Kd.R_mono HO111.out (fun _ hk => hk.1))) hb)
                      have n2_ := Aside0.mk (below_step (by repeat (first | (with_reducible first | exact HB.out | apply below_alloc | apply pw_below_drewN | apply below_drew1) | exact HB.out)) hb)
                      have z_HO115 := fun (h0_ : b 9 = true) => (show Kd.R Kd.string 9 w37 w.heap.size (fun _ => True) v114 y113 from by first | exact (Kd.R_below (by (with_reducible repeat (first | apply Kd.R_alloc | apply Kd.R_drewN | apply Kd.R_drew)); exact (Q_HO115 h0_)) hb) | exact Kd.R_mono (Kd.R_below (by (with_reducible repeat (first | apply Kd.R_alloc | apply Kd.R_drewN | apply Kd.R_drew)); exact (Q_HO115 h0_)) hb) (fun _ h_ => by first | trivial | exact h_ | exact h_.1))
                      have z_HO119 := fun (h0_ : b 14 = true) => (show Kd.R Kd.string 9 w37 w.heap.size (fun _ => True) v118 y117 from by first | exact (Kd.R_below (by (with_reducible repeat (first | apply Kd.R_alloc | apply Kd.R_drewN | apply Kd.R_drew)); exact (Q_HO119 h0_)) hb) | exact Kd.R_mono (Kd.R_below (by (with_reducible repeat (first | apply Kd.R_alloc | apply Kd.R_drewN | apply Kd.R_drew)); exact (Q_HO119 h0_)) hb) (fun _ h_ => by first | trivial | exact h_ | exact h_.1))
                      have z_HO123 := fun (h0_ : b 20 = true) => (show Kd.R Kd.string 9 w37 w.heap.size (fun _ => True) v122 y121 from by first | exact (Kd.R_below (by (with_reducible repeat (first | apply Kd.R_alloc | apply Kd.R_drewN | apply Kd.R_drew)); exact (Q_HO123 h0_)) hb) | exact Kd.R_mono (Kd.R_below (by (with_reducible repeat (first | apply Kd.R_alloc | apply Kd.R_drewN | apply Kd.R_drew)); exact (Q_HO123 h0_)) hb) (fun _ h_ => by first | trivial | exact h_ | exact h_.1))
                      clear HO_9
                      clear HO111
                      clear HB
                      have HO_9 := n0_
                      have HO111 := n1_
                      have HB := n2_
                      clear n0_ n1_ n2_
                      (try clear hb)
                      (try clear hb2)
                      (try clear hk)
                      (try clear hi)
                      refine hK.out _ _ ⟨.slice Ao36 y109.length co36, v114, v118, v122, (by rw [ha.out]; exact putSel_upk 2 hb_ rfl rfl rfl), (by (with_reducible repeat (first | apply Kd.R_alloc | apply Kd.R_drewN | apply Kd.R_drew)); (first | exact HO_9.out | exact Kd.R_mono HO_9.out (fun _ _ => trivial) | exact Kd.R_mono HO_9.out (fun _ hk => hk.1))), (by repeat (first | (with_reducible first | exact HB.out | apply below_alloc | apply pw_below_drewN | apply below_drew1) | exact HB.out)), fun _ => (by (with_reducible repeat (first | apply Kd.R_alloc | apply Kd.R_drewN | apply Kd.R_drew)); (first | exact HO111.out | exact Kd.R_mono HO111.out (fun _ _ => trivial) | exact Kd.R_mono HO111.out (fun _ hk => hk.1))), z_HO115, z_HO119, z_HO123⟩
                    refine steps_cons ?_ ?_
                    · rintro b a w' ⟨v110, v114, v118, v122, ha, Q_HO_9, Q_HB, Q_HO111, Q_HO115, Q_HO119, Q_HO123⟩ hb_ hon hoff
                      refine ⟨_, rfl, fun K hK => ?_⟩
                      have e46 : a.tmps[46]? = some (.string a0) := by rw [ha]; exact (putSel_off rfl).trans rfl
                      have e47 : a.tmps[47]? = some (.int .i64 ji7) := by rw [ha]; exact (putSel_off rfl).trans rfl
                      have e41 : a.tmps[41]? = some (.bool true) := by rw [ha]; exact (putSel_off rfl).trans rfl
                      replace ha := Aside0.mk ha
                      have HO_9 := Aside0.mk Q_HO_9
                      have HB := Aside0.mk Q_HB
                      refine value_ (w1 := w') (v := .string (a0.extract 0 (ji7 : Int).toNat)) (wanted_on rfl rfl rfl (e41.trans (by first | rfl | (simp [*]; done)))) rfl ?_ ?_
                      · go_simp
                        (try simp only [i64_w])
                        try rfl
                      refine hK.out _ _ ⟨v110, v114, v118, v122, (by rw [ha.out]; exact putSel_upk 3 hb_ rfl rfl rfl), Q_HO_9, Q_HB, Q_HO111, fun h0_ => absurd ((hoff 9 (by kernel_rfl)).symm.trans h0_) (by decide), Q_HO119, Q_HO123⟩
                    refine steps_cons ?_ ?_
                    · rintro b a w' ⟨v110, v114, v118, v122, ha, Q_HO_9, Q_HB, Q_HO111, Q_HO115, Q_HO119, Q_HO123⟩ hb_ hon hoff
                      refine ⟨_, rfl, fun K hK => ?_⟩
                      have e48 : a.tmps[48]? = some (.string (a0.extract 0 (ji7 : Int).toNat)) := by rw [ha]; exact putSel_on (e := (8, 48, .string (a0.extract 0 (ji7 : Int).toNat))) 3 rfl rfl (hon 8 (by kernel_rfl)) rfl
                      have e41 : a.tmps[41]? = some (.bool true) := by rw [ha]; exact (putSel_off rfl).trans rfl
                      replace ha := Aside0.mk ha
                      have HO_9 := Aside0.mk Q_HO_9
                      have HB := Aside0.mk Q_HB
                      refine Kd.R_lit_step Kd.string _ 9 ?hg (N := 49) ?hd (xs := ([a0.extract 0 (ji7 : Int).toNat] : List ByteArray)) (inner := [.string (a0.extract 0 (ji7 : Int).toNat)]) (ok := fun _ => True) (okp := fun _ => True) ?hr ?hp (fun _ hk => hk) trivial (Below.refl _ _) (Nat.le_refl _) (by simp) ?_; (case hd => rfl); (case hg => first | rfl | exact wanted_on rfl rfl rfl (by first | assumption | rfl | (simp [*]; done))); (case hr => first | (go_simp; done) | (go_simp; rfl)); (case hp => exact (Reps.one (show Kd.M Kd.string _ _ _ (a0.extract 0 (ji7 : Int).toNat) [.string (a0.extract 0 (ji7 : Int).toNat)] from rfl) (Reps.none _ _)))
                      intro v114 w33 ho34 hb hg_ hnew_
                      clear hg_ hnew_
                      (first | rw [← Ny113.out] at ho34 | (simp only [Int.reduceToNat] at ho34; rw [← Ny113.out] at ho34))
                      have n0_ := Aside0.mk (Kd.R_below (by (with_reducible repeat (first | apply Kd.R_alloc | apply Kd.R_drewN | apply Kd.R_drew)); (first | exact HO_9.out | exact Kd.R_mono HO_9.out (fun _ _ => trivial) | exact Kd.R_mono HO_9.out (fun _ hk => hk.1))) hb)
                      have n1_ := Aside0.mk (Kd.R_lower ho34 (below_size (by repeat (first | (with_reducible first | exact HB.out | apply below_alloc | apply pw_below_drewN | apply below_drew1) | exact HB.out))))
                      have n2_ := Aside0.mk (below_step (by repeat (first | (with_reducible first | exact HB.out | apply below_alloc | apply pw_below_drewN | apply below_drew1) | exact HB.out)) hb)
                      have z_HO111 := fun (h0_ : b 4 = true) => (show Kd.R Kd.string 9 w33 w.heap.size (fun _ => True) v110 y109 from by first | exact (Kd.R_elder' (by (with_reducible repeat (first | apply Kd.R_alloc | apply Kd.R_drewN | apply Kd.R_drew)); exact (Q_HO111 h0_)) (Kd.R_base ho34) hb) | exact Kd.R_mono (Kd.R_elder' (by (with_reducible repeat (first | apply Kd.R_alloc | apply Kd.R_drewN | apply Kd.R_drew)); exact (Q_HO111 h0_)) (Kd.R_base ho34) hb) (fun _ h_ => by first | trivial | exact h_ | exact h_.1))
                      have z_HO119 := fun (h0_ : b 14 = true) => (show Kd.R Kd.string 9 w33 w.heap.size (fun _ => True) v118 y117 from by first | exact (Kd.R_elder' (by (with_reducible repeat (first | apply Kd.R_alloc | apply Kd.R_drewN | apply Kd.R_drew)); exact (Q_HO119 h0_)) (Kd.R_base ho34) hb) | exact Kd.R_mono (Kd.R_elder' (by (with_reducible repeat (first | apply Kd.R_alloc | apply Kd.R_drewN | apply Kd.R_drew)); exact (Q_HO119 h0_)) (Kd.R_base ho34) hb) (fun _ h_ => by first | trivial | exact h_ | exact h_.1))
                      have z_HO123 := fun (h0_ : b 20 = true) => (show Kd.R Kd.string 9 w33 w.heap.size (fun _ => True) v122 y121 from by first | exact (Kd.R_elder' (by (with_reducible repeat (first | apply Kd.R_alloc | apply Kd.R_drewN | apply Kd.R_drew)); exact (Q_HO123 h0_)) (Kd.R_base ho34) hb) | exact Kd.R_mono (Kd.R_elder' (by (with_reducible repeat (first | apply Kd.R_alloc | apply Kd.R_drewN | apply Kd.R_drew)); exact (Q_HO123 h0_)) (Kd.R_base ho34) hb) (fun _ h_ => by first | trivial | exact h_ | exact h_.1))
                      clear HO_9
                      clear HB
                      have HO_9 := n0_
                      have HO115 := n1_
                      have HB := n2_
                      clear n0_ n1_ n2_
                      clear hb ho34
                      refine hK.out _ _ ⟨v110, v114, v118, v122, (by rw [ha.out]; exact putSel_upk 4 hb_ rfl rfl rfl), (by (with_reducible repeat (first | apply Kd.R_alloc | apply Kd.R_drewN | apply Kd.R_drew)); (first | exact HO_9.out | exact Kd.R_mono HO_9.out (fun _ _ => trivial) | exact Kd.R_mono HO_9.out (fun _ hk => hk.1))), (by repeat (first | (with_reducible first | exact HB.out | apply below_alloc | apply pw_below_drewN | apply below_drew1) | exact HB.out)), z_HO111, fun _ => (by (with_reducible repeat (first | apply Kd.R_alloc | apply Kd.R_drewN | apply Kd.R_drew)); (first | exact HO115.out | exact Kd.R_mono HO115.out (fun _ _ => trivial) | exact Kd.R_mono HO115.out (fun _ hk => hk.1))), z_HO119, z_HO123⟩
                    refine steps_cons ?_ ?_
                    · rintro b a w' ⟨v110, v114, v118, v122, ha, Q_HO_9, Q_HB, Q_HO111, Q_HO115, Q_HO119, Q_HO123⟩ hb_ hon hoff
                      refine ⟨_, rfl, fun K hK => ?_⟩
                      have e49 : a.tmps[49]? = some (v114) := by rw [ha]; exact putSel_on (e := (9, 49, v114)) 4 rfl rfl (hon 9 (by kernel_rfl)) rfl
                      have e41 : a.tmps[41]? = some (.bool true) := by rw [ha]; exact (putSel_off rfl).trans rfl
                      replace ha := Aside0.mk ha
                      have HO_9 := Aside0.mk Q_HO_9
                      have HB := Aside0.mk Q_HB
                      have HO111 := Aside0.mk (Q_HO111 (hon 4 (by kernel_rfl)))
                      have HO115 := Aside0.mk (Q_HO115 (hon 9 (by kernel_rfl)))
                      obtain ⟨Ao40, co40, eo40⟩ := Kd.R_slice HO115.out
                      (first | subst eo40 | (injection eo40 with f1_ f2_ f3_; have f4_ := f1_.symm; have f5_ := f3_.symm; clear f1_ f2_ f3_; subst f4_; subst f5_))
                      refine goes_ Try.func15 (by kernel_rfl) rfl #[.slice Ao40 y113.length co40] (by first | rfl | exact wanted_on rfl rfl rfl (by first | assumption | rfl | (simp [*]; done))) rfl rfl (by first | (simp only [List.map_toArray, List.map_cons, List.map_nil, Act.eval, Array.getD_eq_getD_getElem?, Option.getD_some, e49, e41]; done) | (simp only [List.map_toArray, List.map_cons, List.map_nil, Act.eval, Array.getD_eq_getD_getElem?, Option.getD_some, e49, e41]; rfl)) ?_
                      with_reducible refine (crc_Sum.calls _ _ y113 t116 _ ?side1 ?side2 A24.out).mono ?_
                      (case side1 => repeat (first | exact (Kd.R_reads' HO115.out).2.2 | (with_reducible refine Kd.C_alloc ?_ _) | (with_reducible refine Kd.C_drewN ?_ _) | (with_reducible refine Kd.C_drew ?_)))
                      (case side2 => exact (Kd.R_reads' HO115.out).2.1)
                      rintro e w41 ⟨rfl, hb⟩
                      refine ⟨_, rfl, ?_⟩
                      have n0_ := Aside0.mk (Kd.R_below (by (with_reducible repeat (first | apply Kd.R_alloc | apply Kd.R_drewN | apply Kd.R_drew)); (first | exact HO_9.out | exact Kd.R_mono HO_9.out (fun _ _ => trivial) | exact Kd.R_mono HO_9.out (fun _ hk => hk.1))) hb)
                      have n1_ := Aside0.mk (Kd.R_below (by (with_reducible repeat (first | apply Kd.R_alloc | apply Kd.R_drewN | apply Kd.R_drew)); (first | exact HO111.out | exact Kd.R_mono HO111.out (fun _ _ => trivial) | exact Kd.R_mono HO111.out (fun _ hk => hk.1))) hb)
                      have n2_ := Aside0.mk (Kd.R_below (by (with_reducible repeat (first | apply Kd.R_alloc | apply Kd.R_drewN | apply Kd.R_drew)); (first | exact HO115.out | exact Kd.R_mono HO115.out (fun _ _ => trivial) | exact Kd.R_mono HO115.out (fun _ hk => hk.1))) hb)
                      have n3_ := Aside0.mk (below_step (by repeat (first | (with_reducible first | exact HB.out | apply below_alloc | apply pw_below_drewN | apply below_drew1) | exact HB.out)) hb)
                      have z_HO119 := fun (h0_ : b 14 = true) => (show Kd.R Kd.string 9 w41 w.heap.size (fun _ => True) v118 y117 from by first | exact (Kd.R_below (by (with_reducible repeat (first | apply Kd.R_alloc | apply Kd.R_drewN | apply Kd.R_drew)); exact (Q_HO119 h0_)) hb) | exact Kd.R_mono (Kd.R_below (by (with_reducible repeat (first | apply Kd.R_alloc | apply Kd.R_drewN | apply Kd.R_drew)); exact (Q_HO119 h0_)) hb) (fun _ h_ => by first | trivial | exact h_ | exact h_.1))
                      have z_HO123 := fun (h0_ : b 20 = true) => (show Kd.R Kd.string 9 w41 w.heap.size (fun _ => True) v122 y121 from by first | exact (Kd.R_below (by (with_reducible repeat (first | apply Kd.R_alloc | apply Kd.R_drewN | apply Kd.R_drew)); exact (Q_HO123 h0_)) hb) | exact Kd.R_mono (Kd.R_below (by (with_reducible repeat (first | apply Kd.R_alloc | apply Kd.R_drewN | apply Kd.R_drew)); exact (Q_HO123 h0_)) hb) (fun _ h_ => by first | trivial | exact h_ | exact h_.1))
                      clear HO_9
                      clear HO111
                      clear HO115
                      clear HB
                      have HO_9 := n0_
                      have HO111 := n1_
                      have HO115 := n2_
                      have HB := n3_
                      clear n0_ n1_ n2_ n3_
                      (try clear hb)
                      (try clear hb2)
                      (try clear hk)
                      (try clear hi)
                      refine hK.out _ _ ⟨v110, .slice Ao40 y113.length co40, v118, v122, (by rw [ha.out]; exact putSel_upk 5 hb_ rfl rfl rfl), (by (with_reducible repeat (first | apply Kd.R_alloc | apply Kd.R_drewN | apply Kd.R_drew)); (first | exact HO_9.out | exact Kd.R_mono HO_9.out (fun _ _ => trivial) | exact Kd.R_mono HO_9.out (fun _ hk => hk.1))), (by repeat (first | (with_reducible first | exact HB.out | apply below_alloc | apply pw_below_drewN | apply below_drew1) | exact HB.out)), fun _ => (by (with_reducible repeat (first | apply Kd.R_alloc | apply Kd.R_drewN | apply Kd.R_drew)); (first | exact HO111.out | exact Kd.R_mono HO111.out (fun _ _ => trivial) | exact Kd.R_mono HO111.out (fun _ hk => hk.1))), fun _ => (by (with_reducible repeat (first | apply Kd.R_alloc | apply Kd.R_drewN | apply Kd.R_drew)); (first | exact HO115.out | exact Kd.R_mono HO115.out (fun _ _ => trivial) | exact Kd.R_mono HO115.out (fun _ hk => hk.1))), z_HO119, z_HO123⟩
                    refine steps_cons ?_ ?_
                    · rintro b a w' ⟨v110, v114, v118, v122, ha, Q_HO_9, Q_HB, Q_HO111, Q_HO115, Q_HO119, Q_HO123⟩ hb_ hon hoff
                      refine ⟨_, rfl, fun K hK => ?_⟩
                      have e51 : a.tmps[51]? = some (.string a1) := by rw [ha]; exact (putSel_off rfl).trans rfl
                      have e52 : a.tmps[52]? = some (.int .i64 ji7) := by rw [ha]; exact (putSel_off rfl).trans rfl
                      have e41 : a.tmps[41]? = some (.bool true) := by rw [ha]; exact (putSel_off rfl).trans rfl
                      replace ha := Aside0.mk ha
                      have HO_9 := Aside0.mk Q_HO_9
                      have HB := Aside0.mk Q_HB
                      refine value_ (w1 := w') (v := .string (a1.extract 0 (ji7 : Int).toNat)) (wanted_on rfl rfl rfl (e41.trans (by first | rfl | (simp [*]; done)))) rfl ?_ ?_
                      · go_simp
                        (try simp only [i64_w])
                        try rfl
                      refine hK.out _ _ ⟨v110, v114, v118, v122, (by rw [ha.out]; exact putSel_upk 6 hb_ rfl rfl rfl), Q_HO_9, Q_HB, Q_HO111, Q_HO115, fun h0_ => absurd ((hoff 14 (by kernel_rfl)).symm.trans h0_) (by decide), Q_HO123⟩
                    refine steps_cons ?_ ?_
                    · rintro b a w' ⟨v110, v114, v118, v122, ha, Q_HO_9, Q_HB, Q_HO111, Q_HO115, Q_HO119, Q_HO123⟩ hb_ hon hoff
                      refine ⟨_, rfl, fun K hK => ?_⟩
                      have e53 : a.tmps[53]? = some (.string (a1.extract 0 (ji7 : Int).toNat)) := by rw [ha]; exact putSel_on (e := (13, 53, .string (a1.extract 0 (ji7 : Int).toNat))) 6 rfl rfl (hon 13 (by kernel_rfl)) rfl
                      have e41 : a.tmps[41]? = some (.bool true) := by rw [ha]; exact (putSel_off rfl).trans rfl
                      replace ha := Aside0.mk ha
                      have HO_9 := Aside0.mk Q_HO_9
                      have HB := Aside0.mk Q_HB
                      refine Kd.R_lit_step Kd.string _ 9 ?hg (N := 54) ?hd (xs := ([a1.extract 0 (ji7 : Int).toNat] : List ByteArray)) (inner := [.string (a1.extract 0 (ji7 : Int).toNat)]) (ok := fun _ => True) (okp := fun _ => True) ?hr ?hp (fun _ hk => hk) trivial (Below.refl _ _) (Nat.le_refl _) (by simp) ?_; (case hd => rfl); (case hg => first | rfl | exact wanted_on rfl rfl rfl (by first | assumption | rfl | (simp [*]; done))); (case hr => first | (go_simp; done) | (go_simp; rfl)); (case hp => exact (Reps.one (show Kd.M Kd.string _ _ _ (a1.extract 0 (ji7 : Int).toNat) [.string (a1.extract 0 (ji7 : Int).toNat)] from rfl) (Reps.none _ _)))
                      intro v118 w33 ho34 hb hg_ hnew_
                      clear hg_ hnew_
                      (first | rw [← Ny117.out] at ho34 | (simp only [Int.reduceToNat] at ho34; rw [← Ny117.out] at ho34))
                      have n0_ := Aside0.mk (Kd.R_below (by (with_reducible repeat (first | apply Kd.R_alloc | apply Kd.R_drewN | apply Kd.R_drew)); (first | exact HO_9.out | exact Kd.R_mono HO_9.out (fun _ _ => trivial) | exact Kd.R_mono HO_9.out (fun _ hk => hk.1))) hb)
                      have n1_ := Aside0.mk (Kd.R_lower ho34 (below_size (by repeat (first | (with_reducible first | exact HB.out | apply below_alloc | apply pw_below_drewN | apply below_drew1) | exact HB.out))))
                      have n2_ := Aside0.mk (below_step (by repeat (first | (with_reducible first | exact HB.out | apply below_alloc | apply pw_below_drewN | apply below_drew1) | exact HB.out)) hb)
                      have z_HO111 := fun (h0_ : b 4 = true) => (show Kd.R Kd.string 9 w33 w.heap.size (fun _ => True) v110 y109 from by first | exact (Kd.R_elder' (by (with_reducible repeat (first | apply Kd.R_alloc | apply Kd.R_drewN | apply Kd.R_drew)); exact (Q_HO111 h0_)) (Kd.R_base ho34) hb) | exact Kd.R_mono (Kd.R_elder' (by (with_reducible repeat (first | apply Kd.R_alloc | apply Kd.R_drewN | apply Kd.R_drew)); exact (Q_HO111 h0_)) (Kd.R_base ho34) hb) (fun _ h_ => by first | trivial | exact h_ | exact h_.1))
                      have z_HO115 := fun (h0_ : b 9 = true) => (show Kd.R Kd.string 9 w33 w.heap.size (fun _ => True) v114 y113 from by first | exact (Kd.R_elder' (by (with_reducible repeat (first | apply Kd.R_alloc | apply Kd.R_drewN | apply Kd.R_drew)); exact (Q_HO115 h0_)) (Kd.R_base ho34) hb) | exact Kd.R_mono (Kd.R_elder' (by (with_reducible repeat (first | apply Kd.R_alloc | apply Kd.R_drewN | apply Kd.R_drew)); exact (Q_HO115 h0_)) (Kd.R_base ho34) hb) (fun _ h_ => by first | trivial | exact h_ | exact h_.1))
                      have z_HO123 := fun (h0_ : b 20 = true) => (show Kd.R Kd.string 9 w33 w.heap.size (fun _ => True) v122 y121 from by first | exact (Kd.R_elder' (by (with_reducible repeat (first | apply Kd.R_alloc | apply Kd.R_drewN | apply Kd.R_drew)); exact (Q_HO123 h0_)) (Kd.R_base ho34) hb) | exact Kd.R_mono (Kd.R_elder' (by (with_reducible repeat (first | apply Kd.R_alloc | apply Kd.R_drewN | apply Kd.R_drew)); exact (Q_HO123 h0_)) (Kd.R_base ho34) hb) (fun _ h_ => by first | trivial | exact h_ | exact h_.1))
                      clear HO_9
                      clear HB
                      have HO_9 := n0_
                      have HO119 := n1_
                      have HB := n2_
                      clear n0_ n1_ n2_
                      clear hb ho34
                      refine hK.out _ _ ⟨v110, v114, v118, v122, (by rw [ha.out]; exact putSel_upk 7 hb_ rfl rfl rfl), (by (with_reducible repeat (first | apply Kd.R_alloc | apply Kd.R_drewN | apply Kd.R_drew)); (first | exact HO_9.out | exact Kd.R_mono HO_9.out (fun _ _ => trivial) | exact Kd.R_mono HO_9.out (fun _ hk => hk.1))), (by repeat (first | (with_reducible first | exact HB.out | apply below_alloc | apply pw_below_drewN | apply below_drew1) | exact HB.out)), z_HO111, z_HO115, fun _ => (by (with_reducible repeat (first | apply Kd.R_alloc | apply Kd.R_drewN | apply Kd.R_drew)); (first | exact HO119.out | exact Kd.R_mono HO119.out (fun _ _ => trivial) | exact Kd.R_mono HO119.out (fun _ hk => hk.1))), z_HO123⟩
                    refine steps_cons ?_ ?_
                    · rintro b a w' ⟨v110, v114, v118, v122, ha, Q_HO_9, Q_HB, Q_HO111, Q_HO115, Q_HO119, Q_HO123⟩ hb_ hon hoff
                      refine ⟨_, rfl, fun K hK => ?_⟩
                      have e54 : a.tmps[54]? = some (v118) := by rw [ha]; exact putSel_on (e := (14, 54, v118)) 7 rfl rfl (hon 14 (by kernel_rfl)) rfl
                      have e41 : a.tmps[41]? = some (.bool true) := by rw [ha]; exact (putSel_off rfl).trans rfl
                      replace ha := Aside0.mk ha
                      have HO_9 := Aside0.mk Q_HO_9
                      have HB := Aside0.mk Q_HB
                      have HO111 := Aside0.mk (Q_HO111 (hon 4 (by kernel_rfl)))
                      have HO115 := Aside0.mk (Q_HO115 (hon 9 (by kernel_rfl)))
                      have HO119 := Aside0.mk (Q_HO119 (hon 14 (by kernel_rfl)))
                      obtain ⟨Ao44, co44, eo44⟩ := Kd.R_slice HO119.out
                      (first | subst eo44 | (injection eo44 with f1_ f2_ f3_; have f4_ := f1_.symm; have f5_ := f3_.symm; clear f1_ f2_ f3_; subst f4_; subst f5_))
                      refine goes_ Try.func15 (by kernel_rfl) rfl #[.slice Ao44 y117.length co44] (by first | rfl | exact wanted_on rfl rfl rfl (by first | assumption | rfl | (simp [*]; done))) rfl rfl (by first | (simp only [List.map_toArray, List.map_cons, List.map_nil, Act.eval, Array.getD_eq_getD_getElem?, Option.getD_some, e54, e41]; done) | (simp only [List.map_toArray, List.map_cons, List.map_nil, Act.eval, Array.getD_eq_getD_getElem?, Option.getD_some, e54, e41]; rfl)) ?_
                      with_reducible refine (crc_Sum.calls _ _ y117 t120 _ ?side1 ?side2 A27.out).mono ?_
                      (case side1 => repeat (first | exact (Kd.R_reads' HO119.out).2.2 | (with_reducible refine Kd.C_alloc ?_ _) | (with_reducible refine Kd.C_drewN ?_ _) | (with_reducible refine Kd.C_drew ?_)))
                      (case side2 => exact (Kd.R_reads' HO119.out).2.1)
                      rintro e w45 ⟨rfl, hb⟩
                      refine ⟨_, rfl, ?_⟩
                      have n0_ := Aside0.mk (Kd.R_below (by (with_reducible repeat (first | apply Kd.R_alloc | apply Kd.R_drewN | apply Kd.R_drew)); (first | exact HO_9.out | exact Kd.R_mono HO_9.out (fun _ _ => trivial) | exact Kd.R_mono HO_9.out (fun _ hk => hk.1))) hb)
                      have n1_ := Aside0.mk (Kd.R_below (by (with_reducible repeat (first | apply Kd.R_alloc | apply Kd.R_drewN | apply Kd.R_drew)); (first | exact HO111.out | exact Kd.R_mono HO111.out (fun _ _ => trivial) | exact Kd.R_mono HO111.out (fun _ hk => hk.1))) hb)
                      have n2_ := Aside0.mk (Kd.R_below (by (with_reducible repeat (first | apply Kd.R_alloc | apply Kd.R_drewN | apply Kd.R_drew)); (first | exact HO115.out | exact Kd.R_mono HO115.out (fun _ _ => trivial) | exact Kd.R_mono HO115.out (fun _ hk => hk.1))) hb)
                      have n3_ := Aside0.mk (Kd.R_below (by (with_reducible repeat (first | apply Kd.R_alloc | apply Kd.R_drewN | apply Kd.R_drew)); (first | exact HO119.out | exact Kd.R_mono HO119.out (fun _ _ => trivial) | exact Kd.R_mono HO119.out (fun _ hk => hk.1))) hb)
                      have n4_ := Aside0.mk (below_step (by repeat (first | (with_reducible first | exact HB.out | apply below_alloc | apply pw_below_drewN | apply below_drew1) | exact HB.out)) hb)
                      have z_HO123 := fun (h0_ : b 20 = true) => (show Kd.R Kd.string 9 w45 w.heap.size (fun _ => True) v122 y121 from by first | exact (Kd.R_below (by (with_reducible repeat (first | apply Kd.R_alloc | apply Kd.R_drewN | apply Kd.R_drew)); exact (Q_HO123 h0_)) hb) | exact Kd.R_mono (Kd.R_below (by (with_reducible repeat (first | apply Kd.R_alloc | apply Kd.R_drewN | apply Kd.R_drew)); exact (Q_HO123 h0_)) hb) (fun _ h_ => by first | trivial | exact h_ | exact h_.1))
                      clear HO_9
                      clear HO111
                      clear HO115
                      clear HO119
                      clear HB
                      have HO_9 := n0_
                      have HO111 := n1_
                      have HO115 := n2_
                      have HO119 := n3_
                      have HB := n4_
                      clear n0_ n1_ n2_ n3_ n4_
                      (try clear hb)
                      (try clear hb2)
                      (try clear hk)
                      (try clear hi)
                      refine hK.out _ _ ⟨v110, v114, .slice Ao44 y117.length co44, v122, (by rw [ha.out]; exact putSel_upk 8 hb_ rfl rfl rfl), (by (with_reducible repeat (first | apply Kd.R_alloc | apply Kd.R_drewN | apply Kd.R_drew)); (first | exact HO_9.out | exact Kd.R_mono HO_9.out (fun _ _ => trivial) | exact Kd.R_mono HO_9.out (fun _ hk => hk.1))), (by repeat (first | (with_reducible first | exact HB.out | apply below_alloc | apply pw_below_drewN | apply below_drew1) | exact HB.out)), fun _ => (by (with_reducible repeat (first | apply Kd.R_alloc | apply Kd.R_drewN | apply Kd.R_drew)); (first | exact HO111.out | exact Kd.R_mono HO111.out (fun _ _ => trivial) | exact Kd.R_mono HO111.out (fun _ hk => hk.1))), fun _ => (by (with_reducible repeat (first | apply Kd.R_alloc | apply Kd.R_drewN | apply Kd.R_drew)); (first | exact HO115.out | exact Kd.R_mono HO115.out (fun _ _ => trivial) | exact Kd.R_mono HO115.out (fun _ hk => hk.1))), fun _ => (by (with_reducible repeat (first | apply Kd.R_alloc | apply Kd.R_drewN | apply Kd.R_drew)); (first | exact HO119.out | exact Kd.R_mono HO119.out (fun _ _ => trivial) | exact Kd.R_mono HO119.out (fun _ hk => hk.1))), z_HO123⟩
                    refine steps_cons ?_ ?_
                    · rintro b a w' ⟨v110, v114, v118, v122, ha, Q_HO_9, Q_HB, Q_HO111, Q_HO115, Q_HO119, Q_HO123⟩ hb_ hon hoff
                      refine ⟨_, rfl, fun K hK => ?_⟩
                      have e50 : a.tmps[50]? = some (.int .u32 t116) := by rw [ha]; exact putSel_on (e := (10, 50, .int .u32 t116)) 5 rfl rfl (hon 10 (by kernel_rfl)) rfl
                      have e55 : a.tmps[55]? = some (.int .u32 t120) := by rw [ha]; exact putSel_on (e := (15, 55, .int .u32 t120)) 8 rfl rfl (hon 15 (by kernel_rfl)) rfl
                      have e41 : a.tmps[41]? = some (.bool true) := by rw [ha]; exact (putSel_off rfl).trans rfl
                      replace ha := Aside0.mk ha
                      have HO_9 := Aside0.mk Q_HO_9
                      have HB := Aside0.mk Q_HB
                      have HO111 := Aside0.mk (Q_HO111 (hon 4 (by kernel_rfl)))
                      have HO115 := Aside0.mk (Q_HO115 (hon 9 (by kernel_rfl)))
                      have HO119 := Aside0.mk (Q_HO119 (hon 14 (by kernel_rfl)))
                      refine value_ (w1 := w') (v := .int .u32 (Go.bits .xor .u32 t116 t120)) (wanted_on rfl rfl rfl (e41.trans (by first | rfl | (simp [*]; done)))) rfl ?_ ?_
                      · go_simp
                        (try simp only [i64_w])
                        try rfl
                      refine hK.out _ _ ⟨v110, v114, v118, v122, (by rw [ha.out]; exact putSel_upk 9 hb_ rfl rfl rfl), Q_HO_9, Q_HB, Q_HO111, Q_HO115, Q_HO119, Q_HO123⟩
                    refine steps_cons ?_ ?_
                    · rintro b a w' ⟨v110, v114, v118, v122, ha, Q_HO_9, Q_HB, Q_HO111, Q_HO115, Q_HO119, Q_HO123⟩ hb_ hon hoff
                      refine ⟨_, rfl, fun K hK => ?_⟩
                      have e57 : a.tmps[57]? = some (.string a2) := by rw [ha]; exact (putSel_off rfl).trans rfl
                      have e58 : a.tmps[58]? = some (.int .i64 ji7) := by rw [ha]; exact (putSel_off rfl).trans rfl
                      have e41 : a.tmps[41]? = some (.bool true) := by rw [ha]; exact (putSel_off rfl).trans rfl
                      replace ha := Aside0.mk ha
                      have HO_9 := Aside0.mk Q_HO_9
                      have HB := Aside0.mk Q_HB
                      refine value_ (w1 := w') (v := .string (a2.extract 0 (ji7 : Int).toNat)) (wanted_on rfl rfl rfl (e41.trans (by first | rfl | (simp [*]; done)))) rfl ?_ ?_
                      · go_simp
                        (try simp only [i64_w])
                        try rfl
                      refine hK.out _ _ ⟨v110, v114, v118, v122, (by rw [ha.out]; exact putSel_upk 10 hb_ rfl rfl rfl), Q_HO_9, Q_HB, Q_HO111, Q_HO115, Q_HO119, fun h0_ => absurd ((hoff 20 (by kernel_rfl)).symm.trans h0_) (by decide)⟩
                    refine steps_cons ?_ ?_
                    · rintro b a w' ⟨v110, v114, v118, v122, ha, Q_HO_9, Q_HB, Q_HO111, Q_HO115, Q_HO119, Q_HO123⟩ hb_ hon hoff
                      refine ⟨_, rfl, fun K hK => ?_⟩
                      have e59 : a.tmps[59]? = some (.string (a2.extract 0 (ji7 : Int).toNat)) := by rw [ha]; exact putSel_on (e := (19, 59, .string (a2.extract 0 (ji7 : Int).toNat))) 10 rfl rfl (hon 19 (by kernel_rfl)) rfl
                      have e41 : a.tmps[41]? = some (.bool true) := by rw [ha]; exact (putSel_off rfl).trans rfl
                      replace ha := Aside0.mk ha
                      have HO_9 := Aside0.mk Q_HO_9
                      have HB := Aside0.mk Q_HB
                      refine Kd.R_lit_step Kd.string _ 9 ?hg (N := 60) ?hd (xs := ([a2.extract 0 (ji7 : Int).toNat] : List ByteArray)) (inner := [.string (a2.extract 0 (ji7 : Int).toNat)]) (ok := fun _ => True) (okp := fun _ => True) ?hr ?hp (fun _ hk => hk) trivial (Below.refl _ _) (Nat.le_refl _) (by simp) ?_; (case hd => rfl); (case hg => first | rfl | exact wanted_on rfl rfl rfl (by first | assumption | rfl | (simp [*]; done))); (case hr => first | (go_simp; done) | (go_simp; rfl)); (case hp => exact (Reps.one (show Kd.M Kd.string _ _ _ (a2.extract 0 (ji7 : Int).toNat) [.string (a2.extract 0 (ji7 : Int).toNat)] from rfl) (Reps.none _ _)))
                      intro v122 w33 ho34 hb hg_ hnew_
                      clear hg_ hnew_
                      (first | rw [← Ny121.out] at ho34 | (simp only [Int.reduceToNat] at ho34; rw [← Ny121.out] at ho34))
                      have n0_ := Aside0.mk (Kd.R_below (by (with_reducible repeat (first | apply Kd.R_alloc | apply Kd.R_drewN | apply Kd.R_drew)); (first | exact HO_9.out | exact Kd.R_mono HO_9.out (fun _ _ => trivial) | exact Kd.R_mono HO_9.out (fun _ hk => hk.1))) hb)
                      have n1_ := Aside0.mk (Kd.R_lower ho34 (below_size (by repeat (first | (with_reducible first | exact HB.out | apply below_alloc | apply pw_below_drewN | apply below_drew1) | exact HB.out))))
                      have n2_ := Aside0.mk (below_step (by repeat (first | (with_reducible first | exact HB.out | apply below_alloc | apply pw_below_drewN | apply below_drew1) | exact HB.out)) hb)
                      have z_HO111 := fun (h0_ : b 4 = true) => (show Kd.R Kd.string 9 w33 w.heap.size (fun _ => True) v110 y109 from by first | exact (Kd.R_elder' (by (with_reducible repeat (first | apply Kd.R_alloc | apply Kd.R_drewN | apply Kd.R_drew)); exact (Q_HO111 h0_)) (Kd.R_base ho34) hb) | exact Kd.R_mono (Kd.R_elder' (by (with_reducible repeat (first | apply Kd.R_alloc | apply Kd.R_drewN | apply Kd.R_drew)); exact (Q_HO111 h0_)) (Kd.R_base ho34) hb) (fun _ h_ => by first | trivial | exact h_ | exact h_.1))
                      have z_HO115 := fun (h0_ : b 9 = true) => (show Kd.R Kd.string 9 w33 w.heap.size (fun _ => True) v114 y113 from by first | exact (Kd.R_elder' (by (with_reducible repeat (first | apply Kd.R_alloc | apply Kd.R_drewN | apply Kd.R_drew)); exact (Q_HO115 h0_)) (Kd.R_base ho34) hb) | exact Kd.R_mono (Kd.R_elder' (by (with_reducible repeat (first | apply Kd.R_alloc | apply Kd.R_drewN | apply Kd.R_drew)); exact (Q_HO115 h0_)) (Kd.R_base ho34) hb) (fun _ h_ => by first | trivial | exact h_ | exact h_.1))
                      have z_HO119 := fun (h0_ : b 14 = true) => (show Kd.R Kd.string 9 w33 w.heap.size (fun _ => True) v118 y117 from by first | exact (Kd.R_elder' (by (with_reducible repeat (first | apply Kd.R_alloc | apply Kd.R_drewN | apply Kd.R_drew)); exact (Q_HO119 h0_)) (Kd.R_base ho34) hb) | exact Kd.R_mono (Kd.R_elder' (by (with_reducible repeat (first | apply Kd.R_alloc | apply Kd.R_drewN | apply Kd.R_drew)); exact (Q_HO119 h0_)) (Kd.R_base ho34) hb) (fun _ h_ => by first | trivial | exact h_ | exact h_.1))
                      clear HO_9
                      clear HB
                      have HO_9 := n0_
                      have HO123 := n1_
                      have HB := n2_
                      clear n0_ n1_ n2_
                      clear hb ho34
                      refine hK.out _ _ ⟨v110, v114, v118, v122, (by rw [ha.out]; exact putSel_upk 11 hb_ rfl rfl rfl), (by (with_reducible repeat (first | apply Kd.R_alloc | apply Kd.R_drewN | apply Kd.R_drew)); (first | exact HO_9.out | exact Kd.R_mono HO_9.out (fun _ _ => trivial) | exact Kd.R_mono HO_9.out (fun _ hk => hk.1))), (by repeat (first | (with_reducible first | exact HB.out | apply below_alloc | apply pw_below_drewN | apply below_drew1) | exact HB.out)), z_HO111, z_HO115, z_HO119, fun _ => (by (with_reducible repeat (first | apply Kd.R_alloc | apply Kd.R_drewN | apply Kd.R_drew)); (first | exact HO123.out | exact Kd.R_mono HO123.out (fun _ _ => trivial) | exact Kd.R_mono HO123.out (fun _ hk => hk.1)))⟩
                    refine steps_cons ?_ ?_
                    · rintro b a w' ⟨v110, v114, v118, v122, ha, Q_HO_9, Q_HB, Q_HO111, Q_HO115, Q_HO119, Q_HO123⟩ hb_ hon hoff
                      refine ⟨_, rfl, fun K hK => ?_⟩
                      have e60 : a.tmps[60]? = some (v122) := by rw [ha]; exact putSel_on (e := (20, 60, v122)) 11 rfl rfl (hon 20 (by kernel_rfl)) rfl
                      have e41 : a.tmps[41]? = some (.bool true) := by rw [ha]; exact (putSel_off rfl).trans rfl
                      replace ha := Aside0.mk ha
                      have HO_9 := Aside0.mk Q_HO_9
                      have HB := Aside0.mk Q_HB
                      have HO111 := Aside0.mk (Q_HO111 (hon 4 (by kernel_rfl)))
                      have HO115 := Aside0.mk (Q_HO115 (hon 9 (by kernel_rfl)))
                      have HO119 := Aside0.mk (Q_HO119 (hon 14 (by kernel_rfl)))
                      have HO123 := Aside0.mk (Q_HO123 (hon 20 (by kernel_rfl)))
                      obtain ⟨Ao48, co48, eo48⟩ := Kd.R_slice HO123.out
                      (first | subst eo48 | (injection eo48 with f1_ f2_ f3_; have f4_ := f1_.symm; have f5_ := f3_.symm; clear f1_ f2_ f3_; subst f4_; subst f5_))
                      refine goes_ Try.func15 (by kernel_rfl) rfl #[.slice Ao48 y121.length co48] (by first | rfl | exact wanted_on rfl rfl rfl (by first | assumption | rfl | (simp [*]; done))) rfl rfl (by first | (simp only [List.map_toArray, List.map_cons, List.map_nil, Act.eval, Array.getD_eq_getD_getElem?, Option.getD_some, e60, e41]; done) | (simp only [List.map_toArray, List.map_cons, List.map_nil, Act.eval, Array.getD_eq_getD_getElem?, Option.getD_some, e60, e41]; rfl)) ?_
                      with_reducible refine (crc_Sum.calls _ _ y121 t124 _ ?side1 ?side2 A30.out).mono ?_
                      (case side1 => repeat (first | exact (Kd.R_reads' HO123.out).2.2 | (with_reducible refine Kd.C_alloc ?_ _) | (with_reducible refine Kd.C_drewN ?_ _) | (with_reducible refine Kd.C_drew ?_)))
                      (case side2 => exact (Kd.R_reads' HO123.out).2.1)
                      rintro e w49 ⟨rfl, hb⟩
                      refine ⟨_, rfl, ?_⟩
                      have n0_ := Aside0.mk (Kd.R_below (by (with_reducible repeat (first | apply Kd.R_alloc | apply Kd.R_drewN | apply Kd.R_drew)); (first | exact HO_9.out | exact Kd.R_mono HO_9.out (fun _ _ => trivial) | exact Kd.R_mono HO_9.out (fun _ hk => hk.1))) hb)
                      have n1_ := Aside0.mk (Kd.R_below (by (with_reducible repeat (first | apply Kd.R_alloc | apply Kd.R_drewN | apply Kd.R_drew)); (first | exact HO111.out | exact Kd.R_mono HO111.out (fun _ _ => trivial) | exact Kd.R_mono HO111.out (fun _ hk => hk.1))) hb)
                      have n2_ := Aside0.mk (Kd.R_below (by (with_reducible repeat (first | apply Kd.R_alloc | apply Kd.R_drewN | apply Kd.R_drew)); (first | exact HO115.out | exact Kd.R_mono HO115.out (fun _ _ => trivial) | exact Kd.R_mono HO115.out (fun _ hk => hk.1))) hb)
                      have n3_ := Aside0.mk (Kd.R_below (by (with_reducible repeat (first | apply Kd.R_alloc | apply Kd.R_drewN | apply Kd.R_drew)); (first | exact HO119.out | exact Kd.R_mono HO119.out (fun _ _ => trivial) | exact Kd.R_mono HO119.out (fun _ hk => hk.1))) hb)
                      have n4_ := Aside0.mk (Kd.R_below (by (with_reducible repeat (first | apply Kd.R_alloc | apply Kd.R_drewN | apply Kd.R_drew)); (first | exact HO123.out | exact Kd.R_mono HO123.out (fun _ _ => trivial) | exact Kd.R_mono HO123.out (fun _ hk => hk.1))) hb)
                      have n5_ := Aside0.mk (below_step (by repeat (first | (with_reducible first | exact HB.out | apply below_alloc | apply pw_below_drewN | apply below_drew1) | exact HB.out)) hb)
                      clear HO_9
                      clear HO111
                      clear HO115
                      clear HO119
                      clear HO123
                      clear HB
                      have HO_9 := n0_
                      have HO111 := n1_
                      have HO115 := n2_
                      have HO119 := n3_
                      have HO123 := n4_
                      have HB := n5_
                      clear n0_ n1_ n2_ n3_ n4_ n5_
                      (try clear hb)
                      (try clear hb2)
                      (try clear hk)
                      (try clear hi)
                      refine hK.out _ _ ⟨v110, v114, v118, .slice Ao48 y121.length co48, (by rw [ha.out]; exact putSel_upk 12 hb_ rfl rfl rfl), (by (with_reducible repeat (first | apply Kd.R_alloc | apply Kd.R_drewN | apply Kd.R_drew)); (first | exact HO_9.out | exact Kd.R_mono HO_9.out (fun _ _ => trivial) | exact Kd.R_mono HO_9.out (fun _ hk => hk.1))), (by repeat (first | (with_reducible first | exact HB.out | apply below_alloc | apply pw_below_drewN | apply below_drew1) | exact HB.out)), fun _ => (by (with_reducible repeat (first | apply Kd.R_alloc | apply Kd.R_drewN | apply Kd.R_drew)); (first | exact HO111.out | exact Kd.R_mono HO111.out (fun _ _ => trivial) | exact Kd.R_mono HO111.out (fun _ hk => hk.1))), fun _ => (by (with_reducible repeat (first | apply Kd.R_alloc | apply Kd.R_drewN | apply Kd.R_drew)); (first | exact HO115.out | exact Kd.R_mono HO115.out (fun _ _ => trivial) | exact Kd.R_mono HO115.out (fun _ hk => hk.1))), fun _ => (by (with_reducible repeat (first | apply Kd.R_alloc | apply Kd.R_drewN | apply Kd.R_drew)); (first | exact HO119.out | exact Kd.R_mono HO119.out (fun _ _ => trivial) | exact Kd.R_mono HO119.out (fun _ hk => hk.1))), fun _ => (by (with_reducible repeat (first | apply Kd.R_alloc | apply Kd.R_drewN | apply Kd.R_drew)); (first | exact HO123.out | exact Kd.R_mono HO123.out (fun _ _ => trivial) | exact Kd.R_mono HO123.out (fun _ hk => hk.1)))⟩
                    refine steps_cons ?_ ?_
                    · rintro b a w' ⟨v110, v114, v118, v122, ha, Q_HO_9, Q_HB, Q_HO111, Q_HO115, Q_HO119, Q_HO123⟩ hb_ hon hoff
                      refine ⟨_, rfl, fun K hK => ?_⟩
                      have e56 : a.tmps[56]? = some (.int .u32 (Go.bits .xor .u32 t116 t120)) := by rw [ha]; exact putSel_on (e := (16, 56, .int .u32 (Go.bits .xor .u32 t116 t120))) 9 rfl rfl (hon 16 (by kernel_rfl)) rfl
                      have e61 : a.tmps[61]? = some (.int .u32 t124) := by rw [ha]; exact putSel_on (e := (21, 61, .int .u32 t124)) 12 rfl rfl (hon 21 (by kernel_rfl)) rfl
                      have e41 : a.tmps[41]? = some (.bool true) := by rw [ha]; exact (putSel_off rfl).trans rfl
                      replace ha := Aside0.mk ha
                      have HO_9 := Aside0.mk Q_HO_9
                      have HB := Aside0.mk Q_HB
                      have HO111 := Aside0.mk (Q_HO111 (hon 4 (by kernel_rfl)))
                      have HO115 := Aside0.mk (Q_HO115 (hon 9 (by kernel_rfl)))
                      have HO119 := Aside0.mk (Q_HO119 (hon 14 (by kernel_rfl)))
                      have HO123 := Aside0.mk (Q_HO123 (hon 20 (by kernel_rfl)))
                      refine value_ (w1 := w') (v := .int .u32 (Go.bits .xor .u32 (Go.bits .xor .u32 t116 t120) t124)) (wanted_on rfl rfl rfl (e41.trans (by first | rfl | (simp [*]; done)))) rfl ?_ ?_
                      · go_simp
                        (try simp only [i64_w])
                        try rfl
                      refine hK.out _ _ ⟨v110, v114, v118, v122, (by rw [ha.out]; exact putSel_upk 13 hb_ rfl rfl rfl), Q_HO_9, Q_HB, Q_HO111, Q_HO115, Q_HO119, Q_HO123⟩
                    refine steps_cons ?_ ?_
                    · rintro b a w' ⟨v110, v114, v118, v122, ha, Q_HO_9, Q_HB, Q_HO111, Q_HO115, Q_HO119, Q_HO123⟩ hb_ hon hoff
                      refine ⟨_, rfl, fun K hK => ?_⟩
                      have e45 : a.tmps[45]? = some (.int .u32 t112) := by rw [ha]; exact putSel_on (e := (5, 45, .int .u32 t112)) 2 rfl rfl (hon 5 (by kernel_rfl)) rfl
                      have e62 : a.tmps[62]? = some (.int .u32 (Go.bits .xor .u32 (Go.bits .xor .u32 t116 t120) t124)) := by rw [ha]; exact putSel_on (e := (22, 62, .int .u32 (Go.bits .xor .u32 (Go.bits .xor .u32 t116 t120) t124))) 13 rfl rfl (hon 22 (by kernel_rfl)) rfl
                      have e41 : a.tmps[41]? = some (.bool true) := by rw [ha]; exact (putSel_off rfl).trans rfl
                      replace ha := Aside0.mk ha
                      have HO_9 := Aside0.mk Q_HO_9
                      have HB := Aside0.mk Q_HB
                      have HO111 := Aside0.mk (Q_HO111 (hon 4 (by kernel_rfl)))
                      have HO115 := Aside0.mk (Q_HO115 (hon 9 (by kernel_rfl)))
                      have HO119 := Aside0.mk (Q_HO119 (hon 14 (by kernel_rfl)))
                      have HO123 := Aside0.mk (Q_HO123 (hon 20 (by kernel_rfl)))
                      refine value_ (w1 := w') (v := .bool (t112 == (Go.bits .xor .u32 (Go.bits .xor .u32 t116 t120) t124))) (wanted_on rfl rfl rfl (e41.trans (by first | rfl | (simp [*]; done)))) rfl ?_ ?_
                      · go_simp
                        (try simp only [i64_w])
                        try rfl
                      refine hK.out _ _ ⟨v110, v114, v118, v122, (by rw [ha.out]; exact putSel_upk 14 hb_ rfl rfl rfl), Q_HO_9, Q_HB, Q_HO111, Q_HO115, Q_HO119, Q_HO123⟩
                    refine steps_cons ?_ ?_
                    · rintro b a w' ⟨v110, v114, v118, v122, ha, Q_HO_9, Q_HB, Q_HO111, Q_HO115, Q_HO119, Q_HO123⟩ hb_ hon hoff
                      refine ⟨_, rfl, fun K hK => ?_⟩
                      have e41 : a.tmps[41]? = some (.bool true) := by rw [ha]; exact (putSel_off rfl).trans rfl
                      have e63 : a.tmps[63]? = some (.bool (t112 == (Go.bits .xor .u32 (Go.bits .xor .u32 t116 t120) t124))) := by rw [ha]; exact putSel_on (e := (23, 63, .bool (t112 == (Go.bits .xor .u32 (Go.bits .xor .u32 t116 t120) t124)))) 14 rfl rfl (hon 23 (by kernel_rfl)) rfl
                      replace ha := Aside0.mk ha
                      have HO_9 := Aside0.mk Q_HO_9
                      have HB := Aside0.mk Q_HB
                      have HO111 := Aside0.mk (Q_HO111 (hon 4 (by kernel_rfl)))
                      have HO115 := Aside0.mk (Q_HO115 (hon 9 (by kernel_rfl)))
                      have HO119 := Aside0.mk (Q_HO119 (hon 14 (by kernel_rfl)))
                      have HO123 := Aside0.mk (Q_HO123 (hon 20 (by kernel_rfl)))
                      refine value_ (w1 := w') (v := .bool (t112 == (Go.bits .xor .u32 (Go.bits .xor .u32 t116 t120) t124))) (by rfl) rfl ?_ ?_
                      · go_simp
                        (try simp only [i64_w])
                        try rfl
                      refine hK.out _ _ ⟨v110, v114, v118, v122, (by rw [ha.out]; exact putSel_upk 15 hb_ rfl rfl rfl), Q_HO_9, Q_HB, Q_HO111, Q_HO115, Q_HO119, Q_HO123⟩
                    refine steps_cons ?_ ?_
                    · rintro b a w' ⟨v110, v114, v118, v122, ha, Q_HO_9, Q_HB, Q_HO111, Q_HO115, Q_HO119, Q_HO123⟩ hb_ hon hoff
                      refine ⟨_, rfl, fun K hK => ?_⟩
                      have e64 : a.tmps[64]? = some (.bool (t112 == (Go.bits .xor .u32 (Go.bits .xor .u32 t116 t120) t124))) := by rw [ha]; exact putSel_on (e := (24, 64, .bool (t112 == (Go.bits .xor .u32 (Go.bits .xor .u32 t116 t120) t124)))) 15 rfl rfl (hon 24 (by kernel_rfl)) rfl
                      replace ha := Aside0.mk ha
                      have HO_9 := Aside0.mk Q_HO_9
                      have HB := Aside0.mk Q_HB
                      have HO111 := Aside0.mk (Q_HO111 (hon 4 (by kernel_rfl)))
                      have HO115 := Aside0.mk (Q_HO115 (hon 9 (by kernel_rfl)))
                      have HO119 := Aside0.mk (Q_HO119 (hon 14 (by kernel_rfl)))
                      have HO123 := Aside0.mk (Q_HO123 (hon 20 (by kernel_rfl)))
                      refine value_ (w1 := w') (v := .bool (t112 == (Go.bits .xor .u32 (Go.bits .xor .u32 t116 t120) t124))) (by rfl) rfl ?_ ?_
                      · go_simp
                        (try simp only [i64_w])
                        try rfl
                      refine hK.out _ _ ⟨v110, v114, v118, v122, (by rw [ha.out]; exact putSel_upk 16 hb_ rfl rfl rfl), Q_HO_9, Q_HB, Q_HO111, Q_HO115, Q_HO119, Q_HO123⟩
                    exact steps_nil
                  rintro b a w49 hall ⟨v110, v114, v118, v122, ha, Q_HO_9, Q_HB, Q_HO111, Q_HO115, Q_HO119, Q_HO123⟩
                  clear HB HO_9
                  have hb3_ := hall 3 (by kernel_rfl)
                  have hb4_ := hall 4 (by kernel_rfl)
                  have hb5_ := hall 5 (by kernel_rfl)
                  have hb8_ := hall 8 (by kernel_rfl)
                  have hb9_ := hall 9 (by kernel_rfl)
                  have hb10_ := hall 10 (by kernel_rfl)
                  have hb13_ := hall 13 (by kernel_rfl)
                  have hb14_ := hall 14 (by kernel_rfl)
                  have hb15_ := hall 15 (by kernel_rfl)
                  have hb16_ := hall 16 (by kernel_rfl)
                  have hb19_ := hall 19 (by kernel_rfl)
                  have hb20_ := hall 20 (by kernel_rfl)
                  have hb21_ := hall 21 (by kernel_rfl)
                  have hb22_ := hall 22 (by kernel_rfl)
                  have hb23_ := hall 23 (by kernel_rfl)
                  have hb24_ := hall 24 (by kernel_rfl)
                  have hb25_ := hall 25 (by kernel_rfl)
                  subst ha
                  simp only [putSel, hb3_, hb4_, hb5_, hb8_, hb9_, hb10_, hb13_, hb14_, hb15_, hb16_, hb19_, hb20_, hb21_, hb22_, hb23_, hb24_, hb25_, if_true, Act.put, List.setIfInBounds_toArray, List.set_cons_zero, List.set_cons_succ]
                  have HO_9 := Aside0.mk Q_HO_9
                  clear Q_HO_9
                  have HB := Aside0.mk Q_HB
                  clear Q_HB
                  have HO111 := Aside0.mk (Q_HO111 hb4_)
                  clear Q_HO111
                  have HO115 := Aside0.mk (Q_HO115 hb9_)
                  clear Q_HO115
                  have HO119 := Aside0.mk (Q_HO119 hb14_)
                  clear Q_HO119
                  have HO123 := Aside0.mk (Q_HO123 hb20_)
                  clear Q_HO123
                  clear hall hb3_ hb4_ hb5_ hb8_ hb9_ hb10_ hb13_ hb14_ hb15_ hb16_ hb19_ hb20_ hb21_ hb22_ hb23_ hb24_ hb25_
                  try go_wp2
                  go_ret
                  exact ⟨by first | rfl | (simp [errW_none, errW_some] <;> rfl) | (simp only [← hji5, ← hji6, ← hji7]; first | rfl | (simp [errW_none, errW_some] <;> rfl)) | (simp [*, errW_none, errW_some] <;> rfl), by repeat (first | (with_reducible first | exact HB.out | apply below_alloc | apply pw_below_drewN | apply below_drew1) | exact HB.out)⟩
                · rw [if_neg c29] at H
                  exact absurd H (by simp)
              · rw [if_neg c26] at H
                exact absurd H (by simp)
            · rw [if_neg c23] at H
              exact absurd H (by simp)
          · rw [if_neg c22] at H
            exact absurd H (by simp)
        · replace c20 := Bool.eq_false_iff.mpr c20
          subst c20
          have H1 : (some false) = some r := by rw [if_neg (show ¬ (false = true) by decide)] at H; exact H
          clear H
          have H := H1
          clear H1
          obtain rfl := Option.some.inj H
          try go_wp2
          have n0_ := Aside0.mk (Kd.R_drew HO_9.out)
          have n1_ := Aside0.mk (below_drew1 HB.out)
          clear HO_9
          clear HB
          have HO_9 := n0_
          have HB := n1_
          clear n0_ n1_
          refine start_ (n := 26) (S := fun w' => True) (ds := []) #[false, false, false, false, false, false, false, false, false, false, false, false, false, false, false, false, false, false, false, false, false, false, false, false, false, false] (by kernel_rfl) rfl rfl trivial (fun hHeld => ?_); refine with_tabW earshotlaw05_CrcTurned.tab8 earshotlaw05_CrcTurned.bits8 (fun HT_ HW_ => ?_)
          generalize wr.drew = w50 at HO_9 HB hHeld ⊢
          refine pure_ (i := 0) (N := some 40) (v := ?_) (a' := ?_) #[true, false, false, false, false, false, false, false, false, false, false, false, false, false, false, false, false, false, false, false, false, false, false, false, false, false] rfl rfl (any_of HT_.out (by kernel_rfl)) (fun _ _ _ h => h) (Or.inl ⟨by rfl, ?_⟩) ?_ ?_
          rotate_left
          · intro w'
            go_simp
            with_reducible rfl
          rotate_left
          · simp only [Act.put, List.setIfInBounds_toArray, List.set_cons_zero, List.set_cons_succ, i64_w, i32_w]
            rfl
          refine pure_ (i := 1) (N := some 41) (v := ?_) (a' := ?_) #[true, true, false, false, false, false, false, false, false, false, false, false, false, false, false, false, false, false, false, false, false, false, false, false, false, false] rfl rfl (any_of HT_.out (by kernel_rfl)) (fun _ _ _ h => h) (Or.inl ⟨by rfl, ?_⟩) ?_ ?_
          rotate_left
          · intro w'
            go_simp
            with_reducible rfl
          rotate_left
          · simp only [Act.put, List.setIfInBounds_toArray, List.set_cons_zero, List.set_cons_succ, i64_w, i32_w]
            rfl
          refine pure_ (i := 2) (N := some 42) (v := undef) (a' := ?_) #[true, true, true, false, false, false, false, false, false, false, false, false, false, false, false, false, false, false, false, false, false, false, false, false, false, false] rfl rfl (any_of HT_.out (by kernel_rfl)) (fun _ _ _ h => h) (Or.inr ⟨by rfl, rfl⟩) ?_ ?_
          rotate_left
          · simp only [Act.put, List.setIfInBounds_toArray, List.set_cons_zero, List.set_cons_succ, i64_w, i32_w]
            rfl
          refine pure_ (i := 3) (N := some 43) (v := undef) (a' := ?_) #[true, true, true, true, false, false, false, false, false, false, false, false, false, false, false, false, false, false, false, false, false, false, false, false, false, false] rfl rfl (any_of HT_.out (by kernel_rfl)) (fun _ _ _ h => h) (Or.inr ⟨by rfl, rfl⟩) ?_ ?_
          rotate_left
          · simp only [Act.put, List.setIfInBounds_toArray, List.set_cons_zero, List.set_cons_succ, i64_w, i32_w]
            rfl
          refine pure_ (i := 4) (N := some 44) (v := undef) (a' := ?_) #[true, true, true, true, true, false, false, false, false, false, false, false, false, false, false, false, false, false, false, false, false, false, false, false, false, false] rfl rfl (any_of HT_.out (by kernel_rfl)) (fun _ _ _ h => h) (Or.inr ⟨by rfl, rfl⟩) ?_ ?_
          rotate_left
          · simp only [Act.put, List.setIfInBounds_toArray, List.set_cons_zero, List.set_cons_succ, i64_w, i32_w]
            rfl
          refine pure_ (i := 5) (N := some 45) (v := undef) (a' := ?_) #[true, true, true, true, true, true, false, false, false, false, false, false, false, false, false, false, false, false, false, false, false, false, false, false, false, false] rfl rfl (any_of HT_.out (by kernel_rfl)) (fun _ _ _ h => h) (Or.inr ⟨by rfl, rfl⟩) ?_ ?_
          rotate_left
          · simp only [Act.put, List.setIfInBounds_toArray, List.set_cons_zero, List.set_cons_succ, i64_w, i32_w]
            rfl
          refine pure_ (i := 6) (N := some 46) (v := undef) (a' := ?_) #[true, true, true, true, true, true, true, false, false, false, false, false, false, false, false, false, false, false, false, false, false, false, false, false, false, false] rfl rfl (any_of HT_.out (by kernel_rfl)) (fun _ _ _ h => h) (Or.inr ⟨by rfl, rfl⟩) ?_ ?_
          rotate_left
          · simp only [Act.put, List.setIfInBounds_toArray, List.set_cons_zero, List.set_cons_succ, i64_w, i32_w]
            rfl
          refine pure_ (i := 7) (N := some 47) (v := undef) (a' := ?_) #[true, true, true, true, true, true, true, true, false, false, false, false, false, false, false, false, false, false, false, false, false, false, false, false, false, false] rfl rfl (any_of HT_.out (by kernel_rfl)) (fun _ _ _ h => h) (Or.inr ⟨by rfl, rfl⟩) ?_ ?_
          rotate_left
          · simp only [Act.put, List.setIfInBounds_toArray, List.set_cons_zero, List.set_cons_succ, i64_w, i32_w]
            rfl
          refine pure_ (i := 8) (N := some 48) (v := undef) (a' := ?_) #[true, true, true, true, true, true, true, true, true, false, false, false, false, false, false, false, false, false, false, false, false, false, false, false, false, false] rfl rfl (any_of HT_.out (by kernel_rfl)) (fun _ _ _ h => h) (Or.inr ⟨by rfl, rfl⟩) ?_ ?_
          rotate_left
          · simp only [Act.put, List.setIfInBounds_toArray, List.set_cons_zero, List.set_cons_succ, i64_w, i32_w]
            rfl
          refine pure_ (i := 9) (N := some 49) (v := undef) (a' := ?_) #[true, true, true, true, true, true, true, true, true, true, false, false, false, false, false, false, false, false, false, false, false, false, false, false, false, false] rfl rfl (any_of HT_.out (by kernel_rfl)) (fun _ _ _ h => h) (Or.inr ⟨by rfl, rfl⟩) ?_ ?_
          rotate_left
          · simp only [Act.put, List.setIfInBounds_toArray, List.set_cons_zero, List.set_cons_succ, i64_w, i32_w]
            rfl
          refine pure_ (i := 10) (N := some 50) (v := undef) (a' := ?_) #[true, true, true, true, true, true, true, true, true, true, true, false, false, false, false, false, false, false, false, false, false, false, false, false, false, false] rfl rfl (any_of HT_.out (by kernel_rfl)) (fun _ _ _ h => h) (Or.inr ⟨by rfl, rfl⟩) ?_ ?_
          rotate_left
          · simp only [Act.put, List.setIfInBounds_toArray, List.set_cons_zero, List.set_cons_succ, i64_w, i32_w]
            rfl
          refine pure_ (i := 11) (N := some 51) (v := undef) (a' := ?_) #[true, true, true, true, true, true, true, true, true, true, true, true, false, false, false, false, false, false, false, false, false, false, false, false, false, false] rfl rfl (any_of HT_.out (by kernel_rfl)) (fun _ _ _ h => h) (Or.inr ⟨by rfl, rfl⟩) ?_ ?_
          rotate_left
          · simp only [Act.put, List.setIfInBounds_toArray, List.set_cons_zero, List.set_cons_succ, i64_w, i32_w]
            rfl
          refine pure_ (i := 12) (N := some 52) (v := undef) (a' := ?_) #[true, true, true, true, true, true, true, true, true, true, true, true, true, false, false, false, false, false, false, false, false, false, false, false, false, false] rfl rfl (any_of HT_.out (by kernel_rfl)) (fun _ _ _ h => h) (Or.inr ⟨by rfl, rfl⟩) ?_ ?_
          rotate_left
          · simp only [Act.put, List.setIfInBounds_toArray, List.set_cons_zero, List.set_cons_succ, i64_w, i32_w]
            rfl
          refine pure_ (i := 13) (N := some 53) (v := undef) (a' := ?_) #[true, true, true, true, true, true, true, true, true, true, true, true, true, true, false, false, false, false, false, false, false, false, false, false, false, false] rfl rfl (any_of HT_.out (by kernel_rfl)) (fun _ _ _ h => h) (Or.inr ⟨by rfl, rfl⟩) ?_ ?_
          rotate_left
          · simp only [Act.put, List.setIfInBounds_toArray, List.set_cons_zero, List.set_cons_succ, i64_w, i32_w]
            rfl
          refine pure_ (i := 14) (N := some 54) (v := undef) (a' := ?_) #[true, true, true, true, true, true, true, true, true, true, true, true, true, true, true, false, false, false, false, false, false, false, false, false, false, false] rfl rfl (any_of HT_.out (by kernel_rfl)) (fun _ _ _ h => h) (Or.inr ⟨by rfl, rfl⟩) ?_ ?_
          rotate_left
          · simp only [Act.put, List.setIfInBounds_toArray, List.set_cons_zero, List.set_cons_succ, i64_w, i32_w]
            rfl
          refine pure_ (i := 15) (N := some 55) (v := undef) (a' := ?_) #[true, true, true, true, true, true, true, true, true, true, true, true, true, true, true, true, false, false, false, false, false, false, false, false, false, false] rfl rfl (any_of HT_.out (by kernel_rfl)) (fun _ _ _ h => h) (Or.inr ⟨by rfl, rfl⟩) ?_ ?_
          rotate_left
          · simp only [Act.put, List.setIfInBounds_toArray, List.set_cons_zero, List.set_cons_succ, i64_w, i32_w]
            rfl
          refine pure_ (i := 16) (N := some 56) (v := undef) (a' := ?_) #[true, true, true, true, true, true, true, true, true, true, true, true, true, true, true, true, true, false, false, false, false, false, false, false, false, false] rfl rfl (any_of HT_.out (by kernel_rfl)) (fun _ _ _ h => h) (Or.inr ⟨by rfl, rfl⟩) ?_ ?_
          rotate_left
          · simp only [Act.put, List.setIfInBounds_toArray, List.set_cons_zero, List.set_cons_succ, i64_w, i32_w]
            rfl
          refine pure_ (i := 17) (N := some 57) (v := undef) (a' := ?_) #[true, true, true, true, true, true, true, true, true, true, true, true, true, true, true, true, true, true, false, false, false, false, false, false, false, false] rfl rfl (any_of HT_.out (by kernel_rfl)) (fun _ _ _ h => h) (Or.inr ⟨by rfl, rfl⟩) ?_ ?_
          rotate_left
          · simp only [Act.put, List.setIfInBounds_toArray, List.set_cons_zero, List.set_cons_succ, i64_w, i32_w]
            rfl
          refine pure_ (i := 18) (N := some 58) (v := undef) (a' := ?_) #[true, true, true, true, true, true, true, true, true, true, true, true, true, true, true, true, true, true, true, false, false, false, false, false, false, false] rfl rfl (any_of HT_.out (by kernel_rfl)) (fun _ _ _ h => h) (Or.inr ⟨by rfl, rfl⟩) ?_ ?_
          rotate_left
          · simp only [Act.put, List.setIfInBounds_toArray, List.set_cons_zero, List.set_cons_succ, i64_w, i32_w]
            rfl
          refine pure_ (i := 19) (N := some 59) (v := undef) (a' := ?_) #[true, true, true, true, true, true, true, true, true, true, true, true, true, true, true, true, true, true, true, true, false, false, false, false, false, false] rfl rfl (any_of HT_.out (by kernel_rfl)) (fun _ _ _ h => h) (Or.inr ⟨by rfl, rfl⟩) ?_ ?_
          rotate_left
          · simp only [Act.put, List.setIfInBounds_toArray, List.set_cons_zero, List.set_cons_succ, i64_w, i32_w]
            rfl
          refine pure_ (i := 20) (N := some 60) (v := undef) (a' := ?_) #[true, true, true, true, true, true, true, true, true, true, true, true, true, true, true, true, true, true, true, true, true, false, false, false, false, false] rfl rfl (any_of HT_.out (by kernel_rfl)) (fun _ _ _ h => h) (Or.inr ⟨by rfl, rfl⟩) ?_ ?_
          rotate_left
          · simp only [Act.put, List.setIfInBounds_toArray, List.set_cons_zero, List.set_cons_succ, i64_w, i32_w]
            rfl
          refine pure_ (i := 21) (N := some 61) (v := undef) (a' := ?_) #[true, true, true, true, true, true, true, true, true, true, true, true, true, true, true, true, true, true, true, true, true, true, false, false, false, false] rfl rfl (any_of HT_.out (by kernel_rfl)) (fun _ _ _ h => h) (Or.inr ⟨by rfl, rfl⟩) ?_ ?_
          rotate_left
          · simp only [Act.put, List.setIfInBounds_toArray, List.set_cons_zero, List.set_cons_succ, i64_w, i32_w]
            rfl
          refine pure_ (i := 22) (N := some 62) (v := undef) (a' := ?_) #[true, true, true, true, true, true, true, true, true, true, true, true, true, true, true, true, true, true, true, true, true, true, true, false, false, false] rfl rfl (any_of HT_.out (by kernel_rfl)) (fun _ _ _ h => h) (Or.inr ⟨by rfl, rfl⟩) ?_ ?_
          rotate_left
          · simp only [Act.put, List.setIfInBounds_toArray, List.set_cons_zero, List.set_cons_succ, i64_w, i32_w]
            rfl
          refine pure_ (i := 23) (N := some 63) (v := undef) (a' := ?_) #[true, true, true, true, true, true, true, true, true, true, true, true, true, true, true, true, true, true, true, true, true, true, true, true, false, false] rfl rfl (any_of HT_.out (by kernel_rfl)) (fun _ _ _ h => h) (Or.inr ⟨by rfl, rfl⟩) ?_ ?_
          rotate_left
          · simp only [Act.put, List.setIfInBounds_toArray, List.set_cons_zero, List.set_cons_succ, i64_w, i32_w]
            rfl
          refine pure_ (i := 24) (N := some 64) (v := ?_) (a' := ?_) #[true, true, true, true, true, true, true, true, true, true, true, true, true, true, true, true, true, true, true, true, true, true, true, true, true, false] rfl rfl (any_of HT_.out (by kernel_rfl)) (fun _ _ _ h => h) (Or.inl ⟨by rfl, ?_⟩) ?_ ?_
          rotate_left
          · intro w'
            go_simp
            with_reducible rfl
          rotate_left
          · simp only [Act.put, List.setIfInBounds_toArray, List.set_cons_zero, List.set_cons_succ, i64_w, i32_w]
            rfl
          refine pure_ (i := 25) (N := some 6) (v := ?_) (a' := ?_) #[true, true, true, true, true, true, true, true, true, true, true, true, true, true, true, true, true, true, true, true, true, true, true, true, true, true] rfl rfl (any_of HT_.out (by kernel_rfl)) (fun _ _ _ h => h) (Or.inl ⟨by rfl, ?_⟩) ?_ ?_
          rotate_left
          · intro w'
            go_simp
            with_reducible rfl
          rotate_left
          · simp only [Act.put, List.setIfInBounds_toArray, List.set_cons_zero, List.set_cons_succ, i64_w, i32_w]
            rfl
          refine done_ (done_of HT_.out (by kernel_rfl)) ?_
          try go_wp2
          go_ret
          exact ⟨by first | rfl | (simp [errW_none, errW_some] <;> rfl) | (simp only [← hji5, ← hji6, ← hji7]; first | rfl | (simp [errW_none, errW_some] <;> rfl)) | (simp [*, errW_none, errW_some] <;> rfl), by repeat (first | (with_reducible first | exact HB.out | apply below_alloc | apply pw_below_drewN | apply below_drew1) | exact HB.out)⟩

/-- THE ONE PURE STATEMENT of earshotlaw05_CrcTurned: yours. -/
def earshotlaw05_CrcTurned.Pure : Prop := ∀ (a0 : ByteArray) (a1 : ByteArray) (a2 : ByteArray), a0.size ≤ 140737488351232 → a1.size ≤ 140737488351232 → a2.size ≤ 140737488351232 → ∃ k, earshotlaw05_CrcTurned.f k a0 a1 a2 = some true
theorem earshotlaw05_CrcTurned.walk (P : earshotlaw05_CrcTurned.Pure) (a0 : ByteArray) (a1 : ByteArray) (a2 : ByteArray) (w : World) (w0 : a0.size ≤ 140737488351232) (w1 : a1.size ≤ 140737488351232) (w2 : a2.size ≤ 140737488351232) :
    Calls Try.prog 4 #[.string a0, .string a1, .string a2] w fun e w' => e = .returned (.bool true) ∧ Below w.heap.size w w' := by
  obtain ⟨k, h⟩ := P a0 a1 a2 w0 w1 w2
  refine (earshotlaw05_CrcTurned.calls k a0 a1 a2 true w h).mono ?_
  rintro e w' ⟨rfl, hd⟩
  exact ⟨rfl, hd⟩

end Go.Proofs.Yteihjdpbahfnnaa.PCrcTurned
