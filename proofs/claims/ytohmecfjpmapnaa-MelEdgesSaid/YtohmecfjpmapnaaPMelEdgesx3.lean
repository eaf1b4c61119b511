-- Written by a program of this work (wip/tools) for this claim; Lean checks it.
import Derived.Test.YtohmecfjpmapnaaPMelEdgesx0
import Derived.Test.YtohmecfjpmapnaaPMelEdgesx1
import Derived.Test.YtohmecfjpmapnaaPMelEdgesx2
namespace Go.Proofs.Ytohmecfjpmapnaa.PMelEdges
open Go.RowKit Go.Proofs.YtohmecfjpmapnaaW.PrintWords Go.Proofs.YtohmecfjpmapnaaW.PrintLast Go.Proofs.YtohmecfjpmapnaaW.PrintMore
attribute [local go_sem] max2_int min2_int max_two min_two max_three min_three max_four min_four   -- for this text's walks alone
set_option linter.unusedVariables false
set_option linter.unusedSimpArgs false

/-! ### earshotlaw11_MelEdges: function 4 -/
mutual
def earshotlaw11_MelEdges.j0 : Nat → Bool → Int → Int → List Int → Bool → Option (Bool)
  | 0, _, _, _, _, _ => none
  | k + 1, x5, x6, x7, x8, x41 => if x41 = true then (some false) else (earshotlaw11_MelEdges.l0 k x5 x6 x7 x8 1)
def earshotlaw11_MelEdges.l0 : Nat → Bool → Int → Int → List Int → Int → Option (Bool)
  | 0, _, _, _, _, _ => none
  | k + 1, x5, x6, x7, x8, x9 => if x9 < (x8.length : Int) then (if 0 ≤ x9 then (if 0 ≤ (wrap64 (x9 - 1)) then (if (wrap64 (x9 - 1)) < (x8.length : Int) then (if (rd x8 x9) < (rd x8 (wrap64 (x9 - 1))) then (some false) else (if (rd x8 x9) ≥ x6 then (some false) else ((mel_High.f k (rd x8 x9)).bind fun t126 => ((mel_High.f k (wrap64 (x6 - 1))).bind fun t127 => (if (wrap64 (t126 * (wrap64 (x7 + 1)))) < (wrap64 (x9 * t127)) then (some false) else (if (rd x8 x9) > 0 then ((mel_High.f k (wrap64 ((rd x8 x9) - 1))).bind fun t128 => ((mel_High.f k (wrap64 (x6 - 1))).bind fun t127 => (if (wrap64 (t128 * (wrap64 (x7 + 1)))) ≥ (wrap64 (x9 * t127)) then (some false) else (earshotlaw11_MelEdges.l0 k x5 x6 x7 x8 (wrap64 (x9 + 1)))))) else (earshotlaw11_MelEdges.l0 k x5 x6 x7 x8 (wrap64 (x9 + 1))))))))) else (none)) else (none)) else (none)) else (if x5 = true then ((mel_High.f k 0).bind fun t121 => (if t121 = 0 then ((mel_High.f k (wrap64 (x6 - 2))).bind fun t122 => ((mel_High.f k (wrap64 (x6 - 1))).bind fun t123 => (some (decide (t122 ≤ t123))))) else (some false))) else (some false))
end
def earshotlaw11_MelEdges.f (k : Nat) (a0 : Int) (a1 : Int) : Option (Bool) := (earshotlaw11_awake.f k).bind fun t115 => ((mel_Edges.f (wrap64 (2 + (Go.bits .and .i64 a0 63))) (wrap64 (1 + (Go.bits .and .i64 a1 15)))).bind fun t116 => (if (t116.length : Int) = (wrap64 ((wrap64 (1 + (Go.bits .and .i64 a1 15))) + 2)) then (if 0 < (t116.length : Int) then (if (rd t116 0) = 0 then (if 0 ≤ (wrap64 ((wrap64 (1 + (Go.bits .and .i64 a1 15))) + 1)) then (if (wrap64 ((wrap64 (1 + (Go.bits .and .i64 a1 15))) + 1)) < (t116.length : Int) then (earshotlaw11_MelEdges.j0 k t115 (wrap64 (2 + (Go.bits .and .i64 a0 63))) (wrap64 (1 + (Go.bits .and .i64 a1 15))) t116 ((rd t116 (wrap64 ((wrap64 (1 + (Go.bits .and .i64 a1 15))) + 1))) != (wrap64 ((wrap64 (2 + (Go.bits .and .i64 a0 63))) - 1)))) else (none)) else (none)) else (earshotlaw11_MelEdges.j0 k t115 (wrap64 (2 + (Go.bits .and .i64 a0 63))) (wrap64 (1 + (Go.bits .and .i64 a1 15))) t116 true)) else (none)) else (earshotlaw11_MelEdges.j0 k t115 (wrap64 (2 + (Go.bits .and .i64 a0 63))) (wrap64 (1 + (Go.bits .and .i64 a1 15))) t116 true)))
theorem earshotlaw11_MelEdges.mono_l : ∀ k, (∀ y0 y1 y2 y3 y4, LeO (earshotlaw11_MelEdges.j0 k y0 y1 y2 y3 y4) (earshotlaw11_MelEdges.j0 (k + 1) y0 y1 y2 y3 y4)) ∧ (∀ y0 y1 y2 y3 y4, LeO (earshotlaw11_MelEdges.l0 k y0 y1 y2 y3 y4) (earshotlaw11_MelEdges.l0 (k + 1) y0 y1 y2 y3 y4))
  | 0 => ⟨fun _ _ _ _ _ r h => by simp [earshotlaw11_MelEdges.j0] at h, fun _ _ _ _ _ r h => by simp [earshotlaw11_MelEdges.l0] at h⟩
  | k + 1 => by
    obtain ⟨ih0, ih1⟩ := earshotlaw11_MelEdges.mono_l k
    refine ⟨?_, ?_⟩
    · intro y0 y1 y2 y3 y4
      unfold earshotlaw11_MelEdges.j0
      repeat' first
      | (with_reducible exact ih0 _ _ _ _ _)
      | (with_reducible exact ih1 _ _ _ _ _)
      | (with_reducible exact earshotlaw11_awake.mono _)
      | (with_reducible exact mel_High.mono _ _)
      | (with_reducible exact LeO.refl _)
      | (with_reducible exact LeO.none _)
      | (with_reducible refine LeO.ite ?_ ?_)
      | (with_reducible refine LeO.bind ?_ (fun _ => ?_))
      | exact ih0 _ _ _ _ _
      | exact ih1 _ _ _ _ _
      | exact earshotlaw11_awake.mono _
      | exact mel_High.mono _ _
      | exact LeO.none _
      | refine LeO.ite ?_ ?_
      | refine LeO.bind ?_ (fun _ => ?_)
    · intro y0 y1 y2 y3 y4
      unfold earshotlaw11_MelEdges.l0
      repeat' first
      | (with_reducible exact ih0 _ _ _ _ _)
      | (with_reducible exact ih1 _ _ _ _ _)
      | (with_reducible exact earshotlaw11_awake.mono _)
      | (with_reducible exact mel_High.mono _ _)
      | (with_reducible exact LeO.refl _)
      | (with_reducible exact LeO.none _)
      | (with_reducible refine LeO.ite ?_ ?_)
      | (with_reducible refine LeO.bind ?_ (fun _ => ?_))
      | exact ih0 _ _ _ _ _
      | exact ih1 _ _ _ _ _
      | exact earshotlaw11_awake.mono _
      | exact mel_High.mono _ _
      | exact LeO.none _
      | refine LeO.ite ?_ ?_
      | refine LeO.bind ?_ (fun _ => ?_)
theorem earshotlaw11_MelEdges.mono : ∀ a0 a1 k, LeO (earshotlaw11_MelEdges.f k a0 a1) (earshotlaw11_MelEdges.f (k + 1) a0 a1) := by
  intro a0 a1 k
  obtain ⟨ih0, ih1⟩ := earshotlaw11_MelEdges.mono_l k
  unfold earshotlaw11_MelEdges.f
  repeat' first
      | (with_reducible exact ih0 _ _ _ _ _)
      | (with_reducible exact ih1 _ _ _ _ _)
      | (with_reducible exact earshotlaw11_awake.mono _)
      | (with_reducible exact mel_High.mono _ _)
      | (with_reducible exact LeO.refl _)
      | (with_reducible exact LeO.none _)
      | (with_reducible refine LeO.ite ?_ ?_)
      | (with_reducible refine LeO.bind ?_ (fun _ => ?_))
      | exact ih0 _ _ _ _ _
      | exact ih1 _ _ _ _ _
      | exact earshotlaw11_awake.mono _
      | exact mel_High.mono _ _
      | exact LeO.none _
      | refine LeO.ite ?_ ?_
      | refine LeO.bind ?_ (fun _ => ?_)
set_option maxHeartbeats 8000000 in
set_option maxRecDepth 100000 in
theorem earshotlaw11_MelEdges.calls (k : Nat) (a0 : Int) (a1 : Int) (r : Bool) (w : World) (h : earshotlaw11_MelEdges.f k a0 a1 = some r) :
    Calls Try.prog 4 #[.int .i64 a0, .int .i64 a1] w fun e w' => e = .returned (.bool r) ∧ Below w.heap.size w w' := by
  have HB := Aside0.mk (Below.refl w.heap.size w)
  have H : ((earshotlaw11_awake.f k).bind fun t115 => ((mel_Edges.f (wrap64 (2 + (Go.bits .and .i64 a0 63))) (wrap64 (1 + (Go.bits .and .i64 a1 15)))).bind fun t116 => (if (t116.length : Int) = (wrap64 ((wrap64 (1 + (Go.bits .and .i64 a1 15))) + 2)) then (if 0 < (t116.length : Int) then (if (rd t116 0) = 0 then (if 0 ≤ (wrap64 ((wrap64 (1 + (Go.bits .and .i64 a1 15))) + 1)) then (if (wrap64 ((wrap64 (1 + (Go.bits .and .i64 a1 15))) + 1)) < (t116.length : Int) then (earshotlaw11_MelEdges.j0 k t115 (wrap64 (2 + (Go.bits .and .i64 a0 63))) (wrap64 (1 + (Go.bits .and .i64 a1 15))) t116 ((rd t116 (wrap64 ((wrap64 (1 + (Go.bits .and .i64 a1 15))) + 1))) != (wrap64 ((wrap64 (2 + (Go.bits .and .i64 a0 63))) - 1)))) else (none)) else (none)) else (earshotlaw11_MelEdges.j0 k t115 (wrap64 (2 + (Go.bits .and .i64 a0 63))) (wrap64 (1 + (Go.bits .and .i64 a1 15))) t116 true)) else (none)) else (earshotlaw11_MelEdges.j0 k t115 (wrap64 (2 + (Go.bits .and .i64 a0 63))) (wrap64 (1 + (Go.bits .and .i64 a1 15))) t116 true)))) = some r := h
  clear h
  replace H := Option.bind_eq_some_iff.mp H
  obtain ⟨t115, A30, H⟩ := H
  replace H : ((mel_Edges.f (wrap64 (2 + (Go.bits .and .i64 a0 63))) (wrap64 (1 + (Go.bits .and .i64 a1 15)))).bind fun t116 => (if (t116.length : Int) = (wrap64 ((wrap64 (1 + (Go.bits .and .i64 a1 15))) + 2)) then (if 0 < (t116.length : Int) then (if (rd t116 0) = 0 then (if 0 ≤ (wrap64 ((wrap64 (1 + (Go.bits .and .i64 a1 15))) + 1)) then (if (wrap64 ((wrap64 (1 + (Go.bits .and .i64 a1 15))) + 1)) < (t116.length : Int) then (earshotlaw11_MelEdges.j0 k t115 (wrap64 (2 + (Go.bits .and .i64 a0 63))) (wrap64 (1 + (Go.bits .and .i64 a1 15))) t116 ((rd t116 (wrap64 ((wrap64 (1 + (Go.bits .and .i64 a1 15))) + 1))) != (wrap64 ((wrap64 (2 + (Go.bits .and .i64 a0 63))) - 1)))) else (none)) else (none)) else (earshotlaw11_MelEdges.j0 k t115 (wrap64 (2 + (Go.bits .and .i64 a0 63))) (wrap64 (1 + (Go.bits .and .i64 a1 15))) t116 true)) else (none)) else (earshotlaw11_MelEdges.j0 k t115 (wrap64 (2 + (Go.bits .and .i64 a0 63))) (wrap64 (1 + (Go.bits .and .i64 a1 15))) t116 true))) = some r := H
  have A3 := Aside0.mk A30
  clear A30
  replace H := Option.bind_eq_some_iff.mp H
  obtain ⟨t116, A40, H⟩ := H
  replace H : (if (t116.length : Int) = (wrap64 ((wrap64 (1 + (Go.bits .and .i64 a1 15))) + 2)) then (if 0 < (t116.length : Int) then (if (rd t116 0) = 0 then (if 0 ≤ (wrap64 ((wrap64 (1 + (Go.bits .and .i64 a1 15))) + 1)) then (if (wrap64 ((wrap64 (1 + (Go.bits .and .i64 a1 15))) + 1)) < (t116.length : Int) then (earshotlaw11_MelEdges.j0 k t115 (wrap64 (2 + (Go.bits .and .i64 a0 63))) (wrap64 (1 + (Go.bits .and .i64 a1 15))) t116 ((rd t116 (wrap64 ((wrap64 (1 + (Go.bits .and .i64 a1 15))) + 1))) != (wrap64 ((wrap64 (2 + (Go.bits .and .i64 a0 63))) - 1)))) else (none)) else (none)) else (earshotlaw11_MelEdges.j0 k t115 (wrap64 (2 + (Go.bits .and .i64 a0 63))) (wrap64 (1 + (Go.bits .and .i64 a1 15))) t116 true)) else (none)) else (earshotlaw11_MelEdges.j0 k t115 (wrap64 (2 + (Go.bits .and .i64 a0 63))) (wrap64 (1 + (Go.bits .and .i64 a1 15))) t116 true)) = some r := H
  have A4 := Aside0.mk A40
  clear A40
  have HC5 := Aside0.mk H
  clear H
  go_enter Try.func4, Try.ntmps4
  go_upto_region 5 with (first | ((with_reducible refine gate_callee (f := 8) rfl ?_); refine goesL_ (some 11) rfl rfl Try.func8 (by kernel_rfl) rfl #[] rfl (by (try simp only [List.map_toArray, List.map_cons, List.map_nil]); first | done | rfl | (simp only [List.length_drop, List.length_take]; rfl)) ?_; (with_reducible refine (earshotlaw11_awake.calls k  t115 _ A3.out).mono ?_); rintro e w6 ⟨rfl, hb⟩; refine ⟨_, rfl, ?_⟩; have n0_ := Aside0.mk (below_step (by repeat (first | (with_reducible first | exact HB.out | apply below_alloc | apply pw_below_drewN | apply below_drew1) | exact HB.out)) hb); clear HB; have HB := n0_; clear n0_; (try clear hb); (try clear hb2); (try clear hk); (try clear hi)) | ((with_reducible refine gate_callee (f := 10) rfl ?_); refine goesL_ (some 20) rfl rfl Try.func10 (by kernel_rfl) rfl #[.int .i64 (wrap64 (2 + (Go.bits .and .i64 a0 63))), .int .i64 (wrap64 (1 + (Go.bits .and .i64 a1 15)))] rfl (by (try simp only [List.map_toArray, List.map_cons, List.map_nil]); first | done | rfl | (simp only [List.length_drop, List.length_take]; rfl)) ?_; (with_reducible refine (mel_Edges.calls (wrap64 (2 + (Go.bits .and .i64 a0 63))) (wrap64 (1 + (Go.bits .and .i64 a1 15))) t116 _ A4.out).mono ?_); rintro e w7 ⟨v117, rfl, ho0, hb⟩; refine ⟨_, rfl, ?_⟩; have n0_ := Aside0.mk (Kd.R_lower ho0 (below_size (by repeat (first | (with_reducible first | exact HB.out | apply below_alloc | apply pw_below_drewN | apply below_drew1) | exact HB.out)))); have n1_ := Aside0.mk (below_step (by repeat (first | (with_reducible first | exact HB.out | apply below_alloc | apply pw_below_drewN | apply below_drew1) | exact HB.out)) hb); clear HB; have HO118 := n0_; have HB := n1_; clear n0_ n1_; (try clear hb); (try clear hb2); (try clear hk); (try clear hi); (try clear ho0)))
  (try simp only [Act.put, List.setIfInBounds_toArray, List.set_cons_zero, List.set_cons_succ])
  go_cut [41] (fun v41 wc => ∃ (kq : Nat) (x41_4 : Bool), v41 = .bool x41_4 ∧ Aside0 (earshotlaw11_MelEdges.j0 kq t115 (wrap64 (2 + (Go.bits .and .i64 a0 63))) (wrap64 (1 + (Go.bits .and .i64 a1 15))) t116 x41_4 = some r) ∧ Aside0 (kq ≤ k) ∧ Aside0 (Kd.R (Kd.int .i64) 3 wc w.heap.size (fun _ => True) v117 t116) ∧ Aside0 (Below w.heap.size w wc))
  case first =>
    have H := HC5.out
    clear HC5
    by_cases c8 : (t116.length : Int) = (wrap64 ((wrap64 (1 + (Go.bits .and .i64 a1 15))) + 2))
    · rw [if_pos c8] at H
      have c8b0 : ((t116.length : Int) == (wrap64 ((wrap64 (1 + (Go.bits .and .i64 a1 15))) + 2))) = true := beq_iff_eq.mpr c8
      have c8b1 : ((t116.length : Int) != (wrap64 ((wrap64 (1 + (Go.bits .and .i64 a1 15))) + 2))) = false := bne_eq_false_iff_eq.mpr c8
      clear c8
      (first | rw [c8b0] | (simp only [i64_w, i32_w]; rw [c8b0]) | skip)
      by_cases c9 : 0 < (t116.length : Int)
      · rw [if_pos c9] at H
        have c9b0 : decide (0 < (t116.length : Int)) = true := decide_eq_true c9
        have c9b1 : decide (0 < t116.length) = true := decide_eq_true (by omega)
        clear c9
        by_cases c10 : (rd t116 0) = 0
        · rw [if_pos c10] at H
          have c10b0 : ((rd t116 0) == 0) = true := beq_iff_eq.mpr c10
          have c10b1 : ((rd t116 0) != 0) = false := bne_eq_false_iff_eq.mpr c10
          clear c10
          obtain ⟨ji11, hji11⟩ : ∃ j_ : Int, (wrap64 ((wrap64 (1 + (Go.bits .and .i64 a1 15))) + 1)) = j_ := ⟨_, rfl⟩
          replace H : (if 0 ≤ (ji11) then (if (ji11) < (t116.length : Int) then (earshotlaw11_MelEdges.j0 k t115 (wrap64 (2 + (Go.bits .and .i64 a0 63))) (wrap64 (1 + (Go.bits .and .i64 a1 15))) t116 ((rd t116 (ji11)) != (wrap64 ((wrap64 (2 + (Go.bits .and .i64 a0 63))) - 1)))) else (none)) else (none)) = some r := by first | (rw [hji11] at H; exact H) | (simp only [hji11] at H ⊢; exact H)
          have hji11w : (IntKind.i64.wrap ((wrap64 (1 + (Go.bits .and .i64 a1 15))) + 1)) = ji11 := (i64_w _).trans hji11
          by_cases c12 : 0 ≤ (ji11)
          · rw [if_pos c12] at H
            have c12b0 : decide (0 ≤ (ji11)) = true := decide_eq_true c12
            clear c12
            by_cases c13 : (ji11) < (t116.length : Int)
            · rw [if_pos c13] at H
              have c13b0 : decide ((ji11) < (t116.length : Int)) = true := decide_eq_true c13
              clear c13
              have H' := Aside0.mk H
              clear H
              obtain ⟨Ao14, co14, eo14⟩ := Kd.R_slice HO118.out
              subst eo14
              have p119 : 0 ≤ (0 : Int) := (by omega)
              have q119 : 0 < (t116.length : Int) := of_decide_eq_true (by first | (with_reducible assumption) | assumption)
              obtain ⟨ad119, e119, hx119_0⟩ := Kd.at_int (Kd.R_reads' HO118.out).2.2 0 p119 q119
              cases e119
              have qi119 : (0 < t116.length) = True := eq_true (by omega)
              (try rw [show ((0 : Int)).toNat = 0 from rfl] at hx119_0)
              (try rw [Addr.add_zero'] at hx119_0)
              replace p119 := eq_true p119
              replace q119 := eq_true q119
              have p120 : 0 ≤ ((ji11) : Int) := of_decide_eq_true (by first | (with_reducible assumption) | assumption)
              have q120 : (ji11) < (t116.length : Int) := of_decide_eq_true (by first | (with_reducible assumption) | assumption)
              obtain ⟨ad120, e120, hx120_0⟩ := Kd.at_int (Kd.R_reads' HO118.out).2.2 (ji11) p120 q120
              obtain rfl : ad119 = ad120 := (by injection e120)
              replace p120 := eq_true p120
              replace q120 := eq_true q120
              go_wp2
              go_meet
              case rel => exact ⟨_, (((rd t116 (ji11)) != (wrap64 ((wrap64 (2 + (Go.bits .and .i64 a0 63))) - 1)))), (by first | rfl | (simp; done) | (simp only [← hji11] <;> (first | rfl | simp)) | (simp [*]; done)), H', ⟨by first | omega | exact Nat.le_refl _⟩, ⟨by (with_reducible repeat (first | apply Kd.R_alloc | apply Kd.R_drewN | apply Kd.R_drew)); exact HO118.out⟩, ⟨by repeat (first | (with_reducible first | exact HB.out | apply below_alloc | apply pw_below_drewN | apply below_drew1) | exact HB.out)⟩⟩
            · rw [if_neg c13] at H
              exact absurd H (by simp)
          · rw [if_neg c12] at H
            exact absurd H (by simp)
        · rw [if_neg c10] at H
          have c10b0 : ((rd t116 0) == 0) = false := beq_eq_false_iff_ne.mpr c10
          have c10b1 : ((rd t116 0) != 0) = true := bne_iff_ne.mpr c10
          have H' := Aside0.mk H
          clear H
          obtain ⟨Ao15, co15, eo15⟩ := Kd.R_slice HO118.out
          subst eo15
          have p119 : 0 ≤ (0 : Int) := (by omega)
          have q119 : 0 < (t116.length : Int) := of_decide_eq_true (by first | (with_reducible assumption) | assumption)
          obtain ⟨ad119, e119, hx119_0⟩ := Kd.at_int (Kd.R_reads' HO118.out).2.2 0 p119 q119
          cases e119
          have qi119 : (0 < t116.length) = True := eq_true (by omega)
          (try rw [show ((0 : Int)).toNat = 0 from rfl] at hx119_0)
          (try rw [Addr.add_zero'] at hx119_0)
          replace p119 := eq_true p119
          replace q119 := eq_true q119
          go_wp2
          go_meet
          case rel => exact ⟨_, (true), (by first | rfl | (simp; done) | (simp [*]; done)), H', ⟨by first | omega | exact Nat.le_refl _⟩, ⟨by (with_reducible repeat (first | apply Kd.R_alloc | apply Kd.R_drewN | apply Kd.R_drew)); exact HO118.out⟩, ⟨by repeat (first | (with_reducible first | exact HB.out | apply below_alloc | apply pw_below_drewN | apply below_drew1) | exact HB.out)⟩⟩
      · rw [if_neg c9] at H
        exact absurd H (by simp)
    · rw [if_neg c8] at H
      have c8b0 : ((t116.length : Int) == (wrap64 ((wrap64 (1 + (Go.bits .and .i64 a1 15))) + 2))) = false := beq_eq_false_iff_ne.mpr c8
      have c8b1 : ((t116.length : Int) != (wrap64 ((wrap64 (1 + (Go.bits .and .i64 a1 15))) + 2))) = true := bne_iff_ne.mpr c8
      (first | rw [c8b0] | (simp only [i64_w, i32_w]; rw [c8b0]) | skip)
      have H' := Aside0.mk H
      clear H
      obtain ⟨Ao16, co16, eo16⟩ := Kd.R_slice HO118.out
      subst eo16
      go_wp2
      go_meet
      case rel => exact ⟨_, (true), (by first | rfl | (simp; done) | (simp [*]; done)), H', ⟨by first | omega | exact Nat.le_refl _⟩, ⟨by (with_reducible repeat (first | apply Kd.R_alloc | apply Kd.R_drewN | apply Kd.R_drew)); exact HO118.out⟩, ⟨by repeat (first | (with_reducible first | exact HB.out | apply below_alloc | apply pw_below_drewN | apply below_drew1) | exact HB.out)⟩⟩
  case rest =>
    clear HC5
    try clear c1
    try clear p1
    try clear q1
    try clear hx1
    try clear qi1
    try clear p2
    try clear c4
    try clear p6
    try clear c8
    try clear c8b0
    try clear c8b1
    try clear c9
    try clear c9b0
    try clear c9b1
    try clear c10
    try clear c10b0
    try clear c10b1
    try clear p11
    try clear q11
    try clear hx11
    try clear qi11
    try clear c12
    try clear c12b0
    try clear p12
    try clear q12
    try clear hx12
    try clear c13
    try clear c13b0
    try clear hx119_0
    try clear hx120_0
    try clear p119
    try clear p120
    try clear q119
    try clear q120
    obtain ⟨kq, x41_4, rfl, HA, HJ4, HO_8, HB⟩ := hcut
    cases kq with
    | zero => exact absurd HA.out (by simp [earshotlaw11_MelEdges.j0])
    | succ kj4 =>
      have H := HA.out
      clear HA
      simp only [earshotlaw11_MelEdges.j0] at H
      by_cases c17 : x41_4 = true
      · subst c17
        have H1 : (some false) = some r := by rw [if_pos rfl] at H; exact H
        clear H
        have H := H1
        clear H1
        obtain rfl := Option.some.inj H
        go_wp2
        go_ret
        exact ⟨by first | rfl | (simp [errW_none, errW_some] <;> rfl) | (simp [*, errW_none, errW_some] <;> rfl), by repeat (first | (with_reducible first | exact HB.out | apply below_alloc | apply pw_below_drewN | apply below_drew1) | exact HB.out)⟩
      · replace c17 := Bool.eq_false_iff.mpr c17
        subst c17
        have H1 : (earshotlaw11_MelEdges.l0 kj4 t115 (wrap64 (2 + (Go.bits .and .i64 a0 63))) (wrap64 (1 + (Go.bits .and .i64 a1 15))) t116 1) = some r := by rw [if_neg (show ¬ (false = true) by decide)] at H; exact H
        clear H
        have H := H1
        clear H1
        have H' := Aside0.mk H
        clear H
        go_wp2
        go_loopg [9] kj4 (fun kq v9 w' => ∃ (x9_2 : Int), v9 = .int .i64 x9_2 ∧ Aside0 (earshotlaw11_MelEdges.l0 kq t115 (wrap64 (2 + (Go.bits .and .i64 a0 63))) (wrap64 (1 + (Go.bits .and .i64 a1 15))) t116 x9_2 = some r) ∧ Aside0 (kq ≤ kj4) ∧ Aside0 (Kd.R (Kd.int .i64) 3 w' w.heap.size (fun _ => True) v117 t116) ∧ Aside0 (Below w.heap.size w w'))
        case atStart => exact ⟨(1), (by first | rfl | (simp; done) | (simp [*]; done)), H', ⟨Nat.le_refl _⟩, ⟨by (with_reducible repeat (first | apply Kd.R_alloc | apply Kd.R_drewN | apply Kd.R_drew)); exact HO_8.out⟩, ⟨by repeat (first | (with_reducible first | exact HB.out | apply below_alloc | apply pw_below_drewN | apply below_drew1) | exact HB.out)⟩⟩
        case round =>
          clear H'
          try clear c1
          try clear p1
          try clear q1
          try clear hx1
          try clear qi1
          try clear p2
          try clear c4
          try clear p6
          try clear c8
          try clear c8b0
          try clear c8b1
          try clear c9
          try clear c9b0
          try clear c9b1
          try clear c10
          try clear c10b0
          try clear c10b1
          try clear p11
          try clear q11
          try clear hx11
          try clear qi11
          try clear c12
          try clear c12b0
          try clear p12
          try clear q12
          try clear hx12
          try clear c13
          try clear c13b0
          try clear c17
          try clear hx119_0
          try clear hx120_0
          try clear p1
          try clear p11
          try clear p119
          try clear p12
          try clear p120
          try clear p2
          try clear p6
          try clear q1
          try clear q11
          try clear q119
          try clear q12
          try clear q120
          obtain ⟨x9_2, rfl, HA, HK2, HO_8, HB⟩ := hrel
          cases gk with
          | zero => exact absurd HA.out (by simp [earshotlaw11_MelEdges.l0])
          | succ k2 =>
            have H := HA.out
            clear HA
            simp only [earshotlaw11_MelEdges.l0] at H
            by_cases c18 : x9_2 < (t116.length : Int)
            · rw [if_pos c18] at H
              have c18b0 : decide (x9_2 < (t116.length : Int)) = true := decide_eq_true c18
              clear c18
              by_cases c19 : 0 ≤ x9_2
              · rw [if_pos c19] at H
                have c19b0 : decide (0 ≤ x9_2) = true := decide_eq_true c19
                clear c19
                obtain ⟨ji20, hji20⟩ : ∃ j_ : Int, (wrap64 (x9_2 - 1)) = j_ := ⟨_, rfl⟩
                replace H : (if 0 ≤ (ji20) then (if (ji20) < (t116.length : Int) then (if (rd t116 x9_2) < (rd t116 (ji20)) then (some false) else (if (rd t116 x9_2) ≥ (wrap64 (2 + (Go.bits .and .i64 a0 63))) then (some false) else ((mel_High.f k2 (rd t116 x9_2)).bind fun t126 => ((mel_High.f k2 (wrap64 ((wrap64 (2 + (Go.bits .and .i64 a0 63))) - 1))).bind fun t127 => (if (wrap64 (t126 * (wrap64 ((wrap64 (1 + (Go.bits .and .i64 a1 15))) + 1)))) < (wrap64 (x9_2 * t127)) then (some false) else (if (rd t116 x9_2) > 0 then ((mel_High.f k2 (wrap64 ((rd t116 x9_2) - 1))).bind fun t128 => ((mel_High.f k2 (wrap64 ((wrap64 (2 + (Go.bits .and .i64 a0 63))) - 1))).bind fun t127 => (if (wrap64 (t128 * (wrap64 ((wrap64 (1 + (Go.bits .and .i64 a1 15))) + 1)))) ≥ (wrap64 (x9_2 * t127)) then (some false) else (earshotlaw11_MelEdges.l0 k2 t115 (wrap64 (2 + (Go.bits .and .i64 a0 63))) (wrap64 (1 + (Go.bits .and .i64 a1 15))) t116 (wrap64 (x9_2 + 1)))))) else (earshotlaw11_MelEdges.l0 k2 t115 (wrap64 (2 + (Go.bits .and .i64 a0 63))) (wrap64 (1 + (Go.bits .and .i64 a1 15))) t116 (wrap64 (x9_2 + 1))))))))) else (none)) else (none)) = some r := by first | (rw [hji20] at H; exact H) | (simp only [hji20] at H ⊢; exact H)
                have hji20w : (IntKind.i64.wrap (x9_2 - 1)) = ji20 := (i64_w _).trans hji20
                by_cases c21 : 0 ≤ (ji20)
                · rw [if_pos c21] at H
                  have c21b0 : decide (0 ≤ (ji20)) = true := decide_eq_true c21
                  clear c21
                  by_cases c22 : (ji20) < (t116.length : Int)
                  · rw [if_pos c22] at H
                    have c22b0 : decide ((ji20) < (t116.length : Int)) = true := decide_eq_true c22
                    clear c22
                    by_cases c23 : (rd t116 x9_2) < (rd t116 (ji20))
                    · rw [if_pos c23] at H
                      have c23b0 : decide ((rd t116 x9_2) < (rd t116 (ji20))) = true := decide_eq_true c23
                      clear c23
                      obtain rfl := Option.some.inj H
                      obtain ⟨Ao24, co24, eo24⟩ := Kd.R_slice HO_8.out
                      subst eo24
                      have p124 : 0 ≤ (x9_2 : Int) := of_decide_eq_true (by first | (with_reducible assumption) | assumption)
                      have q124 : x9_2 < (t116.length : Int) := of_decide_eq_true (by first | (with_reducible assumption) | assumption)
                      obtain ⟨ad124, e124, hx124_0⟩ := Kd.at_int (Kd.R_reads' HO_8.out).2.2 x9_2 p124 q124
                      cases e124
                      replace p124 := eq_true p124
                      replace q124 := eq_true q124
                      have p125 : 0 ≤ ((ji20) : Int) := of_decide_eq_true (by first | (with_reducible assumption) | assumption)
                      have q125 : (ji20) < (t116.length : Int) := of_decide_eq_true (by first | (with_reducible assumption) | assumption)
                      obtain ⟨ad125, e125, hx125_0⟩ := Kd.at_int (Kd.R_reads' HO_8.out).2.2 (ji20) p125 q125
                      obtain rfl : ad124 = ad125 := (by injection e125)
                      replace p125 := eq_true p125
                      replace q125 := eq_true q125
                      go_wp2
                      go_ret
                      exact ⟨by first | rfl | (simp [errW_none, errW_some] <;> rfl) | (simp only [← hji20]; first | rfl | (simp [errW_none, errW_some] <;> rfl)) | (simp [*, errW_none, errW_some] <;> rfl), by repeat (first | (with_reducible first | exact HB.out | apply below_alloc | apply pw_below_drewN | apply below_drew1) | exact HB.out)⟩
                    · rw [if_neg c23] at H
                      have c23b0 : decide ((rd t116 x9_2) < (rd t116 (ji20))) = false := decide_eq_false c23
                      clear c23
                      by_cases c25 : (rd t116 x9_2) ≥ (wrap64 (2 + (Go.bits .and .i64 a0 63)))
                      · rw [if_pos c25] at H
                        have c25b0 : decide ((wrap64 (2 + (Go.bits .and .i64 a0 63))) ≤ (rd t116 x9_2)) = true := decide_eq_true c25
                        clear c25
                        obtain rfl := Option.some.inj H
                        obtain ⟨Ao26, co26, eo26⟩ := Kd.R_slice HO_8.out
                        subst eo26
                        have p124 : 0 ≤ (x9_2 : Int) := of_decide_eq_true (by first | (with_reducible assumption) | assumption)
                        have q124 : x9_2 < (t116.length : Int) := of_decide_eq_true (by first | (with_reducible assumption) | assumption)
                        obtain ⟨ad124, e124, hx124_0⟩ := Kd.at_int (Kd.R_reads' HO_8.out).2.2 x9_2 p124 q124
                        cases e124
                        replace p124 := eq_true p124
                        replace q124 := eq_true q124
                        have p125 : 0 ≤ ((ji20) : Int) := of_decide_eq_true (by first | (with_reducible assumption) | assumption)
                        have q125 : (ji20) < (t116.length : Int) := of_decide_eq_true (by first | (with_reducible assumption) | assumption)
                        obtain ⟨ad125, e125, hx125_0⟩ := Kd.at_int (Kd.R_reads' HO_8.out).2.2 (ji20) p125 q125
                        obtain rfl : ad124 = ad125 := (by injection e125)
                        replace p125 := eq_true p125
                        replace q125 := eq_true q125
                        go_wp2
                        go_ret
                        exact ⟨by first | rfl | (simp [errW_none, errW_some] <;> rfl) | (simp only [← hji20]; first | rfl | (simp [errW_none, errW_some] <;> rfl)) | (simp [*, errW_none, errW_some] <;> rfl), by repeat (first | (with_reducible first | exact HB.out | apply below_alloc | apply pw_below_drewN | apply below_drew1) | exact HB.out)⟩
                      · rw [if_neg c25] at H
                        have c25b0 : decide ((wrap64 (2 + (Go.bits .and .i64 a0 63))) ≤ (rd t116 x9_2)) = false := decide_eq_false c25
                        clear c25
                        replace H := Option.bind_eq_some_iff.mp H
                        obtain ⟨t126, A270, H⟩ := H
                        replace H : ((mel_High.f k2 (wrap64 ((wrap64 (2 + (Go.bits .and .i64 a0 63))) - 1))).bind fun t127 => (if (wrap64 (t126 * (wrap64 ((wrap64 (1 + (Go.bits .and .i64 a1 15))) + 1)))) < (wrap64 (x9_2 * t127)) then (some false) else (if (rd t116 x9_2) > 0 then ((mel_High.f k2 (wrap64 ((rd t116 x9_2) - 1))).bind fun t128 => ((mel_High.f k2 (wrap64 ((wrap64 (2 + (Go.bits .and .i64 a0 63))) - 1))).bind fun t127 => (if (wrap64 (t128 * (wrap64 ((wrap64 (1 + (Go.bits .and .i64 a1 15))) + 1)))) ≥ (wrap64 (x9_2 * t127)) then (some false) else (earshotlaw11_MelEdges.l0 k2 t115 (wrap64 (2 + (Go.bits .and .i64 a0 63))) (wrap64 (1 + (Go.bits .and .i64 a1 15))) t116 (wrap64 (x9_2 + 1)))))) else (earshotlaw11_MelEdges.l0 k2 t115 (wrap64 (2 + (Go.bits .and .i64 a0 63))) (wrap64 (1 + (Go.bits .and .i64 a1 15))) t116 (wrap64 (x9_2 + 1)))))) = some r := H
                        have A27 := Aside0.mk A270
                        clear A270
                        replace H := Option.bind_eq_some_iff.mp H
                        obtain ⟨t127, A280, H⟩ := H
                        replace H : (if (wrap64 (t126 * (wrap64 ((wrap64 (1 + (Go.bits .and .i64 a1 15))) + 1)))) < (wrap64 (x9_2 * t127)) then (some false) else (if (rd t116 x9_2) > 0 then ((mel_High.f k2 (wrap64 ((rd t116 x9_2) - 1))).bind fun t128 => ((mel_High.f k2 (wrap64 ((wrap64 (2 + (Go.bits .and .i64 a0 63))) - 1))).bind fun t127 => (if (wrap64 (t128 * (wrap64 ((wrap64 (1 + (Go.bits .and .i64 a1 15))) + 1)))) ≥ (wrap64 (x9_2 * t127)) then (some false) else (earshotlaw11_MelEdges.l0 k2 t115 (wrap64 (2 + (Go.bits .and .i64 a0 63))) (wrap64 (1 + (Go.bits .and .i64 a1 15))) t116 (wrap64 (x9_2 + 1)))))) else (earshotlaw11_MelEdges.l0 k2 t115 (wrap64 (2 + (Go.bits .and .i64 a0 63))) (wrap64 (1 + (Go.bits .and .i64 a1 15))) t116 (wrap64 (x9_2 + 1))))) = some r := H
                        have A28 := Aside0.mk A280
                        clear A280
                        by_cases c29 : (wrap64 (t126 * (wrap64 ((wrap64 (1 + (Go.bits .and .i64 a1 15))) + 1)))) < (wrap64 (x9_2 * t127))
                        · rw [if_pos c29] at H
                          have c29b0 : decide ((wrap64 (t126 * (wrap64 ((wrap64 (1 + (Go.bits .and .i64 a1 15))) + 1)))) < (wrap64 (x9_2 * t127))) = true := decide_eq_true c29
                          clear c29
                          obtain rfl := Option.some.inj H
                          obtain ⟨Ao30, co30, eo30⟩ := Kd.R_slice HO_8.out
                          subst eo30
                          have p124 : 0 ≤ (x9_2 : Int) := of_decide_eq_true (by first | (with_reducible assumption) | assumption)
                          have q124 : x9_2 < (t116.length : Int) := of_decide_eq_true (by first | (with_reducible assumption) | assumption)
                          obtain ⟨ad124, e124, hx124_0⟩ := Kd.at_int (Kd.R_reads' HO_8.out).2.2 x9_2 p124 q124
                          cases e124
                          replace p124 := eq_true p124
                          replace q124 := eq_true q124
                          have p125 : 0 ≤ ((ji20) : Int) := of_decide_eq_true (by first | (with_reducible assumption) | assumption)
                          have q125 : (ji20) < (t116.length : Int) := of_decide_eq_true (by first | (with_reducible assumption) | assumption)
                          obtain ⟨ad125, e125, hx125_0⟩ := Kd.at_int (Kd.R_reads' HO_8.out).2.2 (ji20) p125 q125
                          obtain rfl : ad124 = ad125 := (by injection e125)
                          replace p125 := eq_true p125
                          replace q125 := eq_true q125
                          go_wp2_with (first | (go_at_call 12; (with_reducible refine (mel_High.calls k2 (rd t116 x9_2) t126 _ A27.out).mono ?_); rintro e w' ⟨rfl, ⟨nd, rfl⟩⟩) | (go_at_call 12; (with_reducible refine (mel_High.calls k2 (wrap64 ((wrap64 (2 + (Go.bits .and .i64 a0 63))) - 1)) t127 _ A28.out).mono ?_); rintro e w' ⟨rfl, ⟨nd, rfl⟩⟩))
                          go_ret
                          exact ⟨by first | rfl | (simp [errW_none, errW_some] <;> rfl) | (simp only [← hji20]; first | rfl | (simp [errW_none, errW_some] <;> rfl)) | (simp [*, errW_none, errW_some] <;> rfl), by repeat (first | (with_reducible first | exact HB.out | apply below_alloc | apply pw_below_drewN | apply below_drew1) | exact HB.out)⟩
                        · rw [if_neg c29] at H
                          have c29b0 : decide ((wrap64 (t126 * (wrap64 ((wrap64 (1 + (Go.bits .and .i64 a1 15))) + 1)))) < (wrap64 (x9_2 * t127))) = false := decide_eq_false c29
                          clear c29
                          by_cases c31 : (rd t116 x9_2) > 0
                          · rw [if_pos c31] at H
                            have c31b0 : decide (0 < (rd t116 x9_2)) = true := decide_eq_true c31
                            clear c31
                            replace H := Option.bind_eq_some_iff.mp H
                            obtain ⟨t128, A320, H⟩ := H
                            replace H : ((mel_High.f k2 (wrap64 ((wrap64 (2 + (Go.bits .and .i64 a0 63))) - 1))).bind fun t127 => (if (wrap64 (t128 * (wrap64 ((wrap64 (1 + (Go.bits .and .i64 a1 15))) + 1)))) ≥ (wrap64 (x9_2 * t127)) then (some false) else (earshotlaw11_MelEdges.l0 k2 t115 (wrap64 (2 + (Go.bits .and .i64 a0 63))) (wrap64 (1 + (Go.bits .and .i64 a1 15))) t116 (wrap64 (x9_2 + 1))))) = some r := H
                            have A32 := Aside0.mk A320
                            clear A320
                            replace H := Option.bind_eq_some_iff.mp H
                            obtain ⟨td_, A330, H⟩ := H
                            obtain rfl := Option.some.inj (A28.out.symm.trans A330)
                            replace H : (if (wrap64 (t128 * (wrap64 ((wrap64 (1 + (Go.bits .and .i64 a1 15))) + 1)))) ≥ (wrap64 (x9_2 * t127)) then (some false) else (earshotlaw11_MelEdges.l0 k2 t115 (wrap64 (2 + (Go.bits .and .i64 a0 63))) (wrap64 (1 + (Go.bits .and .i64 a1 15))) t116 (wrap64 (x9_2 + 1)))) = some r := H
                            have A33 := Aside0.mk A330
                            clear A330
                            by_cases c34 : (wrap64 (t128 * (wrap64 ((wrap64 (1 + (Go.bits .and .i64 a1 15))) + 1)))) ≥ (wrap64 (x9_2 * t127))
                            · rw [if_pos c34] at H
                              have c34b0 : decide ((wrap64 (x9_2 * t127)) ≤ (wrap64 (t128 * (wrap64 ((wrap64 (1 + (Go.bits .and .i64 a1 15))) + 1))))) = true := decide_eq_true c34
                              clear c34
                              obtain rfl := Option.some.inj H
                              obtain ⟨Ao35, co35, eo35⟩ := Kd.R_slice HO_8.out
                              subst eo35
                              have p124 : 0 ≤ (x9_2 : Int) := of_decide_eq_true (by first | (with_reducible assumption) | assumption)
                              have q124 : x9_2 < (t116.length : Int) := of_decide_eq_true (by first | (with_reducible assumption) | assumption)
                              obtain ⟨ad124, e124, hx124_0⟩ := Kd.at_int (Kd.R_reads' HO_8.out).2.2 x9_2 p124 q124
                              cases e124
                              replace p124 := eq_true p124
                              replace q124 := eq_true q124
                              have p125 : 0 ≤ ((ji20) : Int) := of_decide_eq_true (by first | (with_reducible assumption) | assumption)
                              have q125 : (ji20) < (t116.length : Int) := of_decide_eq_true (by first | (with_reducible assumption) | assumption)
                              obtain ⟨ad125, e125, hx125_0⟩ := Kd.at_int (Kd.R_reads' HO_8.out).2.2 (ji20) p125 q125
                              obtain rfl : ad124 = ad125 := (by injection e125)
                              replace p125 := eq_true p125
                              replace q125 := eq_true q125
                              go_wp2_with (first | (go_at_call 12; (with_reducible refine (mel_High.calls k2 (rd t116 x9_2) t126 _ A27.out).mono ?_); rintro e w' ⟨rfl, ⟨nd, rfl⟩⟩) | (go_at_call 12; (with_reducible refine (mel_High.calls k2 (wrap64 ((wrap64 (2 + (Go.bits .and .i64 a0 63))) - 1)) t127 _ A28.out).mono ?_); rintro e w' ⟨rfl, ⟨nd, rfl⟩⟩) | (go_at_call 12; (with_reducible refine (mel_High.calls k2 (wrap64 ((rd t116 x9_2) - 1)) t128 _ A32.out).mono ?_); rintro e w' ⟨rfl, ⟨nd, rfl⟩⟩) | (go_at_call 12; (with_reducible refine (mel_High.calls k2 (wrap64 ((wrap64 (2 + (Go.bits .and .i64 a0 63))) - 1)) t127 _ A33.out).mono ?_); rintro e w' ⟨rfl, ⟨nd, rfl⟩⟩))
                              go_ret
                              exact ⟨by first | rfl | (simp [errW_none, errW_some] <;> rfl) | (simp only [← hji20]; first | rfl | (simp [errW_none, errW_some] <;> rfl)) | (simp [*, errW_none, errW_some] <;> rfl), by repeat (first | (with_reducible first | exact HB.out | apply below_alloc | apply pw_below_drewN | apply below_drew1) | exact HB.out)⟩
                            · rw [if_neg c34] at H
                              have c34b0 : decide ((wrap64 (x9_2 * t127)) ≤ (wrap64 (t128 * (wrap64 ((wrap64 (1 + (Go.bits .and .i64 a1 15))) + 1))))) = false := decide_eq_false c34
                              clear c34
                              have H' := Aside0.mk H
                              clear H
                              obtain ⟨Ao36, co36, eo36⟩ := Kd.R_slice HO_8.out
                              subst eo36
                              have p124 : 0 ≤ (x9_2 : Int) := of_decide_eq_true (by first | (with_reducible assumption) | assumption)
                              have q124 : x9_2 < (t116.length : Int) := of_decide_eq_true (by first | (with_reducible assumption) | assumption)
                              obtain ⟨ad124, e124, hx124_0⟩ := Kd.at_int (Kd.R_reads' HO_8.out).2.2 x9_2 p124 q124
                              cases e124
                              replace p124 := eq_true p124
                              replace q124 := eq_true q124
                              have p125 : 0 ≤ ((ji20) : Int) := of_decide_eq_true (by first | (with_reducible assumption) | assumption)
                              have q125 : (ji20) < (t116.length : Int) := of_decide_eq_true (by first | (with_reducible assumption) | assumption)
                              obtain ⟨ad125, e125, hx125_0⟩ := Kd.at_int (Kd.R_reads' HO_8.out).2.2 (ji20) p125 q125
                              obtain rfl : ad124 = ad125 := (by injection e125)
                              replace p125 := eq_true p125
                              replace q125 := eq_true q125
                              go_wp2_with (first | (go_at_call 12; (with_reducible refine (mel_High.calls k2 (rd t116 x9_2) t126 _ A27.out).mono ?_); rintro e w' ⟨rfl, ⟨nd, rfl⟩⟩) | (go_at_call 12; (with_reducible refine (mel_High.calls k2 (wrap64 ((wrap64 (2 + (Go.bits .and .i64 a0 63))) - 1)) t127 _ A28.out).mono ?_); rintro e w' ⟨rfl, ⟨nd, rfl⟩⟩) | (go_at_call 12; (with_reducible refine (mel_High.calls k2 (wrap64 ((rd t116 x9_2) - 1)) t128 _ A32.out).mono ?_); rintro e w' ⟨rfl, ⟨nd, rfl⟩⟩) | (go_at_call 12; (with_reducible refine (mel_High.calls k2 (wrap64 ((wrap64 (2 + (Go.bits .and .i64 a0 63))) - 1)) t127 _ A33.out).mono ?_); rintro e w' ⟨rfl, ⟨nd, rfl⟩⟩))
                              go_roundg k2
                              case measure => have := HJ4.out; have := HK2.out; omega
                              case rel => exact ⟨(wrap64 (x9_2 + 1)), (by first | rfl | (simp; done) | (simp [*]; done)), H', ⟨by have := HJ4.out; have := HK2.out; omega⟩, ⟨by (with_reducible repeat (first | apply Kd.R_alloc | apply Kd.R_drewN | apply Kd.R_drew)); exact HO_8.out⟩, ⟨by repeat (first | (with_reducible first | exact HB.out | apply below_alloc | apply pw_below_drewN | apply below_drew1) | exact HB.out)⟩⟩
                          · rw [if_neg c31] at H
                            have c31b0 : decide (0 < (rd t116 x9_2)) = false := decide_eq_false c31
                            clear c31
                            have H' := Aside0.mk H
                            clear H
                            obtain ⟨Ao37, co37, eo37⟩ := Kd.R_slice HO_8.out
                            subst eo37
                            have p124 : 0 ≤ (x9_2 : Int) := of_decide_eq_true (by first | (with_reducible assumption) | assumption)
                            have q124 : x9_2 < (t116.length : Int) := of_decide_eq_true (by first | (with_reducible assumption) | assumption)
                            obtain ⟨ad124, e124, hx124_0⟩ := Kd.at_int (Kd.R_reads' HO_8.out).2.2 x9_2 p124 q124
                            cases e124
                            replace p124 := eq_true p124
                            replace q124 := eq_true q124
                            have p125 : 0 ≤ ((ji20) : Int) := of_decide_eq_true (by first | (with_reducible assumption) | assumption)
                            have q125 : (ji20) < (t116.length : Int) := of_decide_eq_true (by first | (with_reducible assumption) | assumption)
                            obtain ⟨ad125, e125, hx125_0⟩ := Kd.at_int (Kd.R_reads' HO_8.out).2.2 (ji20) p125 q125
                            obtain rfl : ad124 = ad125 := (by injection e125)
                            replace p125 := eq_true p125
                            replace q125 := eq_true q125
                            go_wp2_with (first | (go_at_call 12; (with_reducible refine (mel_High.calls k2 (rd t116 x9_2) t126 _ A27.out).mono ?_); rintro e w' ⟨rfl, ⟨nd, rfl⟩⟩) | (go_at_call 12; (with_reducible refine (mel_High.calls k2 (wrap64 ((wrap64 (2 + (Go.bits .and .i64 a0 63))) - 1)) t127 _ A28.out).mono ?_); rintro e w' ⟨rfl, ⟨nd, rfl⟩⟩))
                            go_roundg k2
                            case measure => have := HJ4.out; have := HK2.out; omega
                            case rel => exact ⟨(wrap64 (x9_2 + 1)), (by first | rfl | (simp; done) | (simp [*]; done)), H', ⟨by have := HJ4.out; have := HK2.out; omega⟩, ⟨by (with_reducible repeat (first | apply Kd.R_alloc | apply Kd.R_drewN | apply Kd.R_drew)); exact HO_8.out⟩, ⟨by repeat (first | (with_reducible first | exact HB.out | apply below_alloc | apply pw_below_drewN | apply below_drew1) | exact HB.out)⟩⟩
                  · rw [if_neg c22] at H
                    exact absurd H (by simp)
                · rw [if_neg c21] at H
                  exact absurd H (by simp)
              · rw [if_neg c19] at H
                exact absurd H (by simp)
            · rw [if_neg c18] at H
              have c18b0 : decide (x9_2 < (t116.length : Int)) = false := decide_eq_false c18
              clear c18
              by_cases c38 : t115 = true
              · subst c38
                have H1 : ((mel_High.f k2 0).bind fun t121 => (if t121 = 0 then ((mel_High.f k2 (wrap64 ((wrap64 (2 + (Go.bits .and .i64 a0 63))) - 2))).bind fun t122 => ((mel_High.f k2 (wrap64 ((wrap64 (2 + (Go.bits .and .i64 a0 63))) - 1))).bind fun t123 => (some (decide (t122 ≤ t123))))) else (some false))) = some r := by rw [if_pos rfl] at H; exact H
                clear H
                have H := H1
                clear H1
                replace H := Option.bind_eq_some_iff.mp H
                obtain ⟨t121, A390, H⟩ := H
                replace H : (if t121 = 0 then ((mel_High.f k2 (wrap64 ((wrap64 (2 + (Go.bits .and .i64 a0 63))) - 2))).bind fun t122 => ((mel_High.f k2 (wrap64 ((wrap64 (2 + (Go.bits .and .i64 a0 63))) - 1))).bind fun t123 => (some (decide (t122 ≤ t123))))) else (some false)) = some r := H
                have A39 := Aside0.mk A390
                clear A390
                by_cases c40 : t121 = 0
                · rw [if_pos c40] at H
                  have c40b0 : (t121 == 0) = true := beq_iff_eq.mpr c40
                  have c40b1 : (t121 != 0) = false := bne_eq_false_iff_eq.mpr c40
                  clear c40
                  replace H := Option.bind_eq_some_iff.mp H
                  obtain ⟨t122, A410, H⟩ := H
                  replace H : ((mel_High.f k2 (wrap64 ((wrap64 (2 + (Go.bits .and .i64 a0 63))) - 1))).bind fun t123 => (some (decide (t122 ≤ t123)))) = some r := H
                  have A41 := Aside0.mk A410
                  clear A410
                  replace H := Option.bind_eq_some_iff.mp H
                  obtain ⟨t123, A420, H⟩ := H
                  replace H : (some (decide (t122 ≤ t123))) = some r := H
                  have A42 := Aside0.mk A420
                  clear A420
                  obtain rfl := Option.some.inj H
                  obtain ⟨Ao43, co43, eo43⟩ := Kd.R_slice HO_8.out
                  subst eo43
                  go_wp2_with (first | (go_at_call 12; (with_reducible refine (mel_High.calls k2 0 t121 _ A39.out).mono ?_); rintro e w' ⟨rfl, ⟨nd, rfl⟩⟩) | (go_at_call 12; (with_reducible refine (mel_High.calls k2 (wrap64 ((wrap64 (2 + (Go.bits .and .i64 a0 63))) - 2)) t122 _ A41.out).mono ?_); rintro e w' ⟨rfl, ⟨nd, rfl⟩⟩) | (go_at_call 12; (with_reducible refine (mel_High.calls k2 (wrap64 ((wrap64 (2 + (Go.bits .and .i64 a0 63))) - 1)) t123 _ A42.out).mono ?_); rintro e w' ⟨rfl, ⟨nd, rfl⟩⟩))
                  go_ret
                  exact ⟨by first | rfl | (simp [errW_none, errW_some] <;> rfl) | (simp [*, errW_none, errW_some] <;> rfl), by repeat (first | (with_reducible first | exact HB.out | apply below_alloc | apply pw_below_drewN | apply below_drew1) | exact HB.out)⟩
                · rw [if_neg c40] at H
                  have c40b0 : (t121 == 0) = false := beq_eq_false_iff_ne.mpr c40
                  have c40b1 : (t121 != 0) = true := bne_iff_ne.mpr c40
                  obtain rfl := Option.some.inj H
                  obtain ⟨Ao44, co44, eo44⟩ := Kd.R_slice HO_8.out
                  subst eo44
                  go_wp2_with (first | (go_at_call 12; (with_reducible refine (mel_High.calls k2 0 t121 _ A39.out).mono ?_); rintro e w' ⟨rfl, ⟨nd, rfl⟩⟩))
                  go_ret
                  exact ⟨by first | rfl | (simp [errW_none, errW_some] <;> rfl) | (simp [*, errW_none, errW_some] <;> rfl), by repeat (first | (with_reducible first | exact HB.out | apply below_alloc | apply pw_below_drewN | apply below_drew1) | exact HB.out)⟩
              · replace c38 := Bool.eq_false_iff.mpr c38
                subst c38
                have H1 : (some false) = some r := by rw [if_neg (show ¬ (false = true) by decide)] at H; exact H
                clear H
                have H := H1
                clear H1
                obtain rfl := Option.some.inj H
                obtain ⟨Ao45, co45, eo45⟩ := Kd.R_slice HO_8.out
                subst eo45
                go_wp2
                go_ret
                exact ⟨by first | rfl | (simp [errW_none, errW_some] <;> rfl) | (simp [*, errW_none, errW_some] <;> rfl), by repeat (first | (with_reducible first | exact HB.out | apply below_alloc | apply pw_below_drewN | apply below_drew1) | exact HB.out)⟩

/-- THE ONE PURE STATEMENT of earshotlaw11_MelEdges: yours. -/
def earshotlaw11_MelEdges.Pure : Prop := ∀ (a0 : Int) (a1 : Int), (Lit.int .i64 a0).wf = true → (Lit.int .i64 a1).wf = true → ∃ k, earshotlaw11_MelEdges.f k a0 a1 = some true
theorem earshotlaw11_MelEdges.walk (P : earshotlaw11_MelEdges.Pure) (a0 : Int) (a1 : Int) (w : World) (w0 : (Lit.int .i64 a0).wf = true) (w1 : (Lit.int .i64 a1).wf = true) :
    Calls Try.prog 4 #[.int .i64 a0, .int .i64 a1] w fun e w' => e = .returned (.bool true) ∧ Below w.heap.size w w' := by
  obtain ⟨k, h⟩ := P a0 a1 w0 w1
  refine (earshotlaw11_MelEdges.calls k a0 a1 true w h).mono ?_
  rintro e w' ⟨rfl, hd⟩
  exact ⟨rfl, hd⟩

end Go.Proofs.Ytohmecfjpmapnaa.PMelEdges
