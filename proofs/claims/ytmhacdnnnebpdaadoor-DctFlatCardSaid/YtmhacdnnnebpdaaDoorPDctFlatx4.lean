-- Written by a program of this work (wip/tools) for this claim; Lean checks it.
import Derived.Test.YtmhacdnnnebpdaaDoorPDctFlatx0
import Derived.Test.YtmhacdnnnebpdaaDoorPDctFlatx1
import Derived.Test.YtmhacdnnnebpdaaDoorPDctFlatx3
namespace Go.Proofs.YtmhacdnnnebpdaaDoor.PDctFlat
open Go.RowKit Go.Proofs.YtmhacdnnnebpdaaDoorW.PrintWords Go.Proofs.YtmhacdnnnebpdaaDoorW.PrintLast Go.Proofs.YtmhacdnnnebpdaaDoorW.PrintMore
attribute [local go_sem] max2_int min2_int max_two min_two max_three min_three max_four min_four   -- for this text's walks alone
set_option linter.unusedVariables false
set_option linter.unusedSimpArgs false

/-! ### earshotlaw12_DctFlat: function 6 -/
mutual
def earshotlaw12_DctFlat.l0 : Nat → Int → Bool → List Int → Int → List Int → Int → Int → Int → Option (Bool)
  | 0, _, _, _, _, _, _, _, _ => none
  | k + 1, x0, x7, x8, x9, x10, x11, x135000, x135001 => if x11 < x9 then (if 0 ≤ x11 then (if x11 < (x10.length : Int) then (earshotlaw12_DctFlat.l0 k x0 x7 x8 x9 (x10.set (x11 : Int).toNat (x0 / 16777216)) (wrap64 (x11 + 1)) x135000 x135001) else (none)) else (none)) else ((dct_Dct.f x9 x10).bind fun t143 => ((dct_Dct.f x9 x8).bind fun t146 => ((dct_Dct.f (wrap64 (1 + (Go.bits .and .i64 x135001 (wrap64 (x9 - 1))))) x8).bind fun t149 => (if (t143.length : Int) = x9 then (earshotlaw12_DctFlat.j1 k x0 x7 x9 t143 t146 (wrap64 (1 + (Go.bits .and .i64 x135001 (wrap64 (x9 - 1))))) t149 ((t146.length : Int) != x9)) else (earshotlaw12_DctFlat.j1 k x0 x7 x9 t143 t146 (wrap64 (1 + (Go.bits .and .i64 x135001 (wrap64 (x9 - 1))))) t149 true)))))
def earshotlaw12_DctFlat.j1 : Nat → Int → Bool → Int → List Int → List Int → Int → List Int → Bool → Option (Bool)
  | 0, _, _, _, _, _, _, _, _ => none
  | k + 1, x0, x7, x9, x12, x13, x14, x15, x61 => if x61 = true then (some false) else (earshotlaw12_DctFlat.l1 k x0 x7 x9 x12 x13 x14 x15 0)
def earshotlaw12_DctFlat.l1 : Nat → Int → Bool → Int → List Int → List Int → Int → List Int → Int → Option (Bool)
  | 0, _, _, _, _, _, _, _, _ => none
  | k + 1, x0, x7, x9, x12, x13, x14, x15, x16 => if x16 < x9 then (if x16 = 0 then (if 0 ≤ x16 then (if x16 < (x12.length : Int) then (if (rd x12 x16) = (wrap64 (x9 * (x0 / 16777216))) then (if x16 > 0 then (if (rd x12 x16) = 0 then (earshotlaw12_DctFlat.l1 k x0 x7 x9 x12 x13 x14 x15 (wrap64 (x16 + 1))) else (some false)) else (earshotlaw12_DctFlat.l1 k x0 x7 x9 x12 x13 x14 x15 (wrap64 (x16 + 1)))) else (some false)) else (none)) else (none)) else (if x16 > 0 then (if 0 ≤ x16 then (if x16 < (x12.length : Int) then (if (rd x12 x16) = 0 then (earshotlaw12_DctFlat.l1 k x0 x7 x9 x12 x13 x14 x15 (wrap64 (x16 + 1))) else (some false)) else (none)) else (none)) else (earshotlaw12_DctFlat.l1 k x0 x7 x9 x12 x13 x14 x15 (wrap64 (x16 + 1))))) else (if 0 ≤ x14 then (if x14 ≤ (x13.length : Int) then ((earshotref04_Same.f k x15 (x13.take (x14 : Int).toNat)).bind fun t159 => (if x7 = true then (some t159) else (some false))) else (none)) else (none))
end
def earshotlaw12_DctFlat.f (k : Nat) (a0 : Int) (l1 : List Int) (a2_0 : Int) (a2_1 : Int) : Option (Bool) := (earshotlaw12_awake.f k).bind fun t135 => ((earshotlaw12_sized.f l1 a2_0).bind fun t136 => (if 0 ≤ (t136.length : Int) then (if ((t136.length : Int) : Int).toNat ≤ 35184372088832 then (earshotlaw12_DctFlat.l0 k a0 t135 t136 (t136.length : Int) (List.replicate ((t136.length : Int) : Int).toNat 0) 0 a2_0 a2_1) else (none)) else (none)))
theorem earshotlaw12_DctFlat.mono_l : ∀ k, (∀ y0 y1 y2 y3 y4 y5 y6 y7, LeO (earshotlaw12_DctFlat.l0 k y0 y1 y2 y3 y4 y5 y6 y7) (earshotlaw12_DctFlat.l0 (k + 1) y0 y1 y2 y3 y4 y5 y6 y7)) ∧ (∀ y0 y1 y2 y3 y4 y5 y6 y7, LeO (earshotlaw12_DctFlat.j1 k y0 y1 y2 y3 y4 y5 y6 y7) (earshotlaw12_DctFlat.j1 (k + 1) y0 y1 y2 y3 y4 y5 y6 y7)) ∧ (∀ y0 y1 y2 y3 y4 y5 y6 y7, LeO (earshotlaw12_DctFlat.l1 k y0 y1 y2 y3 y4 y5 y6 y7) (earshotlaw12_DctFlat.l1 (k + 1) y0 y1 y2 y3 y4 y5 y6 y7))
  | 0 => ⟨fun _ _ _ _ _ _ _ _ r h => by simp [earshotlaw12_DctFlat.l0] at h, fun _ _ _ _ _ _ _ _ r h => by simp [earshotlaw12_DctFlat.j1] at h, fun _ _ _ _ _ _ _ _ r h => by simp [earshotlaw12_DctFlat.l1] at h⟩
  | k + 1 => by
    obtain ⟨ih0, ih1, ih2⟩ := earshotlaw12_DctFlat.mono_l k
    refine ⟨?_, ?_, ?_⟩
    · intro y0 y1 y2 y3 y4 y5 y6 y7
      unfold earshotlaw12_DctFlat.l0
      repeat' first
      | (with_reducible exact ih0 _ _ _ _ _ _ _ _)
      | (with_reducible exact ih1 _ _ _ _ _ _ _ _)
      | (with_reducible exact ih2 _ _ _ _ _ _ _ _)
      | (with_reducible exact earshotlaw12_awake.mono _)
      | (with_reducible exact earshotref04_Same.mono _ _ _)
      | (with_reducible exact LeO.refl _)
      | (with_reducible exact LeO.none _)
      | (with_reducible refine LeO.ite ?_ ?_)
      | (with_reducible refine LeO.bind ?_ (fun _ => ?_))
      | exact ih0 _ _ _ _ _ _ _ _
      | exact ih1 _ _ _ _ _ _ _ _
      | exact ih2 _ _ _ _ _ _ _ _
      | exact earshotlaw12_awake.mono _
      | exact earshotref04_Same.mono _ _ _
      | exact LeO.none _
      | refine LeO.ite ?_ ?_
      | refine LeO.bind ?_ (fun _ => ?_)
    · intro y0 y1 y2 y3 y4 y5 y6 y7
      unfold earshotlaw12_DctFlat.j1
      repeat' first
      | (with_reducible exact ih0 _ _ _ _ _ _ _ _)
      | (with_reducible exact ih1 _ _ _ _ _ _ _ _)
      | (with_reducible exact ih2 _ _ _ _ _ _ _ _)
      | (with_reducible exact earshotlaw12_awake.mono _)
      | (with_reducible exact earshotref04_Same.mono _ _ _)
      | (with_reducible exact LeO.refl _)
      | (with_reducible exact LeO.none _)
      | (with_reducible refine LeO.ite ?_ ?_)
      | (with_reducible refine LeO.bind ?_ (fun _ => ?_))
      | exact ih0 _ _ _ _ _ _ _ _
      | exact ih1 _ _ _ _ _ _ _ _
      | exact ih2 _ _ _ _ _ _ _ _
      | exact earshotlaw12_awake.mono _
      | exact earshotref04_Same.mono _ _ _
      | exact LeO.none _
      | refine LeO.ite ?_ ?_
      | refine LeO.bind ?_ (fun _ => ?_)
    · intro y0 y1 y2 y3 y4 y5 y6 y7
      unfold earshotlaw12_DctFlat.l1
      repeat' first
      | (with_reducible exact ih0 _ _ _ _ _ _ _ _)
      | (with_reducible exact ih1 _ _ _ _ _ _ _ _)
      | (with_reducible exact ih2 _ _ _ _ _ _ _ _)
      | (with_reducible exact earshotlaw12_awake.mono _)
      | (with_reducible exact earshotref04_Same.mono _ _ _)
      | (with_reducible exact LeO.refl _)
      | (with_reducible exact LeO.none _)
      | (with_reducible refine LeO.ite ?_ ?_)
      | (with_reducible refine LeO.bind ?_ (fun _ => ?_))
      | exact ih0 _ _ _ _ _ _ _ _
      | exact ih1 _ _ _ _ _ _ _ _
      | exact ih2 _ _ _ _ _ _ _ _
      | exact earshotlaw12_awake.mono _
      | exact earshotref04_Same.mono _ _ _
      | exact LeO.none _
      | refine LeO.ite ?_ ?_
      | refine LeO.bind ?_ (fun _ => ?_)
theorem earshotlaw12_DctFlat.mono : ∀ a0 a1 a2 a3 k, LeO (earshotlaw12_DctFlat.f k a0 a1 a2 a3) (earshotlaw12_DctFlat.f (k + 1) a0 a1 a2 a3) := by
  intro a0 a1 a2 a3 k
  obtain ⟨ih0, ih1, ih2⟩ := earshotlaw12_DctFlat.mono_l k
  unfold earshotlaw12_DctFlat.f
  repeat' first
      | (with_reducible exact ih0 _ _ _ _ _ _ _ _)
      | (with_reducible exact ih1 _ _ _ _ _ _ _ _)
      | (with_reducible exact ih2 _ _ _ _ _ _ _ _)
      | (with_reducible exact earshotlaw12_awake.mono _)
      | (with_reducible exact earshotref04_Same.mono _ _ _)
      | (with_reducible exact LeO.refl _)
      | (with_reducible exact LeO.none _)
      | (with_reducible refine LeO.ite ?_ ?_)
      | (with_reducible refine LeO.bind ?_ (fun _ => ?_))
      | exact ih0 _ _ _ _ _ _ _ _
      | exact ih1 _ _ _ _ _ _ _ _
      | exact ih2 _ _ _ _ _ _ _ _
      | exact earshotlaw12_awake.mono _
      | exact earshotref04_Same.mono _ _ _
      | exact LeO.none _
      | refine LeO.ite ?_ ?_
      | refine LeO.bind ?_ (fun _ => ?_)
set_option maxHeartbeats 8000000 in
set_option maxRecDepth 100000 in
theorem earshotlaw12_DctFlat.calls (k : Nat) (a0 : Int) (A1 : Option Addr) (c1 : Nat) (l1 : List Int) (a2_0 : Int) (a2_1 : Int) (r : Bool) (w : World) (hG : GlobA w) (hr1 : Kd.C (Kd.int .i64) w A1 l1.length l1) (hc1 : l1.length ≤ c1) (h : earshotlaw12_DctFlat.f k a0 l1 a2_0 a2_1 = some r) :
    Calls Tryd.prog 6 #[.int .i64 a0, .slice A1 l1.length c1, .agg #[.int .i64 a2_0, .int .i64 a2_1]] w fun e w' => e = .returned (.bool r) ∧ Below w.heap.size w w' := by
  have hu23 := Tryd.underlying23
  have HR1 := Aside0.mk hr1
  have HC1 := Aside0.mk hc1
  clear hr1 hc1
  have HB := Aside0.mk (Below.refl w.heap.size w)
  have HG := Aside0.mk hG
  clear hG
  have H : ((earshotlaw12_awake.f k).bind fun t135 => ((earshotlaw12_sized.f l1 a2_0).bind fun t136 => (if 0 ≤ (t136.length : Int) then (if ((t136.length : Int) : Int).toNat ≤ 35184372088832 then (earshotlaw12_DctFlat.l0 k a0 t135 t136 (t136.length : Int) (List.replicate ((t136.length : Int) : Int).toNat 0) 0 a2_0 a2_1) else (none)) else (none)))) = some r := h
  clear h
  replace H := Option.bind_eq_some_iff.mp H
  obtain ⟨t135, A40, H⟩ := H
  replace H : ((earshotlaw12_sized.f l1 a2_0).bind fun t136 => (if 0 ≤ (t136.length : Int) then (if ((t136.length : Int) : Int).toNat ≤ 35184372088832 then (earshotlaw12_DctFlat.l0 k a0 t135 t136 (t136.length : Int) (List.replicate ((t136.length : Int) : Int).toNat 0) 0 a2_0 a2_1) else (none)) else (none))) = some r := H
  have A4 := Aside0.mk A40
  clear A40
  replace H := Option.bind_eq_some_iff.mp H
  obtain ⟨t136, A50, H⟩ := H
  replace H : (if 0 ≤ (t136.length : Int) then (if ((t136.length : Int) : Int).toNat ≤ 35184372088832 then (earshotlaw12_DctFlat.l0 k a0 t135 t136 (t136.length : Int) (List.replicate ((t136.length : Int) : Int).toNat 0) 0 a2_0 a2_1) else (none)) else (none)) = some r := H
  have A5 := Aside0.mk A50
  clear A50
  by_cases c6 : 0 ≤ (t136.length : Int)
  · rw [if_pos c6] at H
    have c6b0 := eq_true c6
    have c6b1 : decide (0 ≤ (t136.length : Int)) = true := decide_eq_true c6
    clear c6
    by_cases c7 : ((t136.length : Int) : Int).toNat ≤ 35184372088832
    · rw [if_pos c7] at H
      have c7b0 := eq_true c7
      have c7b1 : decide (((t136.length : Int) : Int).toNat ≤ 35184372088832) = true := decide_eq_true c7
      clear c7
      obtain ⟨y139, hy139⟩ : ∃ y_ : List Int, y_ = (List.replicate ((t136.length : Int) : Int).toNat 0) := ⟨_, rfl⟩
      replace H : (earshotlaw12_DctFlat.l0 k a0 t135 t136 (t136.length : Int) y139 0 a2_0 a2_1) = some r := by first | (rw [hy139]; with_reducible exact H) | (have H2_ := (Option.bind_some _ _).symm.trans H; rw [hy139]; with_reducible exact H2_) | (have H2_ := (Option.bind_some _ _).symm.trans H; with_reducible exact H2_) | with_reducible exact H | (rw [hy139]; exact H) | exact H
      have Ny139 := Aside0.mk hy139
      clear hy139
      have H' := Aside0.mk H
      clear H
      go_enter Tryd.func6, Tryd.ntmps6
      go_wp2_with (first | ((with_reducible refine gate_dst (N := 5) rfl ?_); (try (refine gate_guard (by rfl) ?_; dsimp only)); refine box_event ?hg (N := 5) ?hd (cs := #[.int .i64 a2_0, .int .i64 a2_1]) (t := 23) ?hr ?_; (case hd => rfl); (case hg => first | rfl | exact wanted_on rfl rfl rfl (by first | assumption | rfl | (simp [*]; done))); (case hr => first | (go_simp; done) | (go_simp; rfl)); intro gb134 hg w8 hbox hb; have n0_ := Aside0.mk (below_step (by repeat (first | (with_reducible first | exact HB.out | apply below_alloc | apply pw_below_drewN | apply below_drew1) | exact HB.out)) hb); have n1_ := Aside0.mk (hbox); have n2_ := Aside0.mk ((by rw [hg]; exact (below_size (by repeat (first | (with_reducible first | exact HB.out | apply below_alloc | apply pw_below_drewN | apply below_drew1) | exact HB.out))) : w.heap.size ≤ gb134)); have n3_ := Aside0.mk ((by rw [hg]; exact (below_size (by repeat (first | (with_reducible first | exact HB.out | apply below_alloc | apply pw_below_drewN | apply below_drew1) | exact HB.out))) : w.heap.size ≤ gb134)); clear HB; have HB := n0_; have BK134 := n1_; have GW134 := n2_; have GE134 := n3_; clear n0_ n1_ n2_ n3_; clear hb hbox hg) | ((with_reducible refine gate_callee (f := 14) rfl ?_); refine goesL_ (some 18) rfl rfl Tryd.func14 (by kernel_rfl) rfl #[] rfl (by (try simp only [List.map_toArray, List.map_cons, List.map_nil]); first | done | rfl | (simp only [List.length_drop, List.length_take]; rfl)) ?_; (with_reducible refine (earshotlaw12_awake.calls k  t135 _ ?side1 A4.out).mono ?_); (case side1 => exact GlobA.below HG.out (by repeat (first | (with_reducible first | exact HB.out | apply below_alloc | apply pw_below_drewN | apply below_drew1 | refine below_set ?_ GE134.out) | exact HB.out))); rintro e w9 ⟨rfl, hb⟩; refine ⟨_, rfl, ?_⟩; have n0_ := Aside0.mk (blk_below (g := gb134) (o := .cells #[.int .i64 a2_0, .int .i64 a2_1] 23 (0, 0)) (by (with_reducible repeat (first | refine blk_drewN ?_ _ | refine blk_drew ?_ | refine blk_alloc ?_ _)); exact BK134.out) hb); have n1_ := Aside0.mk (below_step (by repeat (first | (with_reducible first | exact HB.out | apply below_alloc | apply pw_below_drewN | apply below_drew1 | refine below_set ?_ GE134.out) | exact HB.out)) hb); clear BK134; clear HB; have BK134 := n0_; have HB := n1_; clear n0_ n1_; (try clear hb); (try clear hb2); (try clear hk); (try clear hi); have hcz10_0 : w9.cell? ⟨gb134, 0, none⟩ = some (.int .i64 a2_0) := (blk_cell BK134.out 0).trans rfl; have hcz10_1 : w9.cell? ⟨gb134, 1, none⟩ = some (.int .i64 a2_1) := (blk_cell BK134.out 1).trans rfl; have hfz10_0 := blk_frozen BK134.out 0; have hfz10_1 := blk_frozen BK134.out 1) | ((with_reducible refine gate_callee (f := 15) rfl ?_); refine goesL_ (some 22) rfl rfl Tryd.func15 (by kernel_rfl) rfl #[.slice A1 l1.length c1, .int .i64 a2_0] rfl (by (try simp only [List.map_toArray, List.map_cons, List.map_nil]); first | done | rfl | (simp only [List.length_drop, List.length_take]; rfl)) ?_; (with_reducible refine (earshotlaw12_sized.calls _ _ l1 a2_0 t136 _ ?side1 ?side2 A5.out).mono ?_); (case side1 => repeat (first | exact (Kd.C_below HR1.out HB.out) | (with_reducible refine Kd.C_alloc ?_ _) | (with_reducible refine Kd.C_drewN ?_ _) | (with_reducible refine Kd.C_drew ?_))); (case side2 => exact HC1.out); rintro e w11 ⟨v137, rfl, ho0, hb⟩; refine ⟨_, rfl, ?_⟩; have n0_ := Aside0.mk (Kd.R_lower ho0 (below_size (by repeat (first | (with_reducible first | exact HB.out | apply below_alloc | apply pw_below_drewN | apply below_drew1 | refine below_set ?_ GE134.out) | exact HB.out)))); have n1_ := Aside0.mk (blk_below (g := gb134) (o := .cells #[.int .i64 a2_0, .int .i64 a2_1] 23 (0, 0)) (by (with_reducible repeat (first | refine blk_drewN ?_ _ | refine blk_drew ?_ | refine blk_alloc ?_ _)); exact BK134.out) hb); have n2_ := Aside0.mk (below_step (by repeat (first | (with_reducible first | exact HB.out | apply below_alloc | apply pw_below_drewN | apply below_drew1 | refine below_set ?_ GE134.out) | exact HB.out)) hb); clear BK134; clear HB; have HO138 := n0_; have BK134 := n1_; have HB := n2_; clear n0_ n1_ n2_; (try clear hb); (try clear hb2); (try clear hk); (try clear hi); (try clear ho0); obtain ⟨Ao12, co12, eo12⟩ := Kd.R_slice HO138.out; subst eo12) | ((with_reducible refine gate_dst (N := 26) rfl ?_); (try (refine gate_guard (by rfl) ?_; dsimp only)); refine Kd.R_make (Kd.int .i64) _ 3 rfl (N := 26) rfl 22 _ _ rfl (t136.length : Int) rfl rfl Tryd.underlying22 (.int .i64 0) 8 info3 rfl (by decide) (by omega) 0 (ok := fun _ => True) (okp := fun _ => True) rfl (fun _ hk => hk) trivial (of_decide_eq_true (by first | (with_reducible assumption) | assumption)) (Nat.le_trans (Nat.mul_le_mul_right _ (of_decide_eq_true (by first | (with_reducible assumption) | assumption) : (t136.length : Int).toNat ≤ 35184372088832)) (by omega)) (Below.refl _ _) (Nat.le_refl _) ?_; intro v140 w13 ho14 hb hg_ hnew_; clear hg_ hnew_; (first | rw [← Ny139.out] at ho14 | (simp only [Int.reduceToNat] at ho14; rw [← Ny139.out] at ho14)); have n0_ := Aside0.mk (Kd.R_elder' (by (with_reducible repeat (first | apply Kd.R_alloc | apply Kd.R_drewN | apply Kd.R_drew)); (first | exact HO138.out | exact Kd.R_mono HO138.out (fun _ _ => trivial) | exact Kd.R_mono HO138.out (fun _ hk => hk.1))) (Kd.R_base ho14) hb); have n1_ := Aside0.mk (Kd.R_lower (Kd.R_new' ho14 (Kd.R_lt (by (with_reducible repeat (first | apply Kd.R_alloc | apply Kd.R_drewN | apply Kd.R_drew)); (first | exact HO138.out | exact Kd.R_mono HO138.out (fun _ _ => trivial) | exact Kd.R_mono HO138.out (fun _ hk => hk.1))))) (below_size (by repeat (first | (with_reducible first | exact HB.out | apply below_alloc | apply pw_below_drewN | apply below_drew1 | refine below_set ?_ GE134.out) | exact HB.out)))); have n2_ := Aside0.mk (blk_below (g := gb134) (o := .cells #[.int .i64 a2_0, .int .i64 a2_1] 23 (0, 0)) (by (with_reducible repeat (first | refine blk_drewN ?_ _ | refine blk_drew ?_ | refine blk_alloc ?_ _)); exact BK134.out) hb); have n3_ := Aside0.mk (below_step (by repeat (first | (with_reducible first | exact HB.out | apply below_alloc | apply pw_below_drewN | apply below_drew1 | refine below_set ?_ GE134.out) | exact HB.out)) hb); clear HO138; clear BK134; clear HB; have HO138 := n0_; have HO141 := n1_; have BK134 := n2_; have HB := n3_; clear n0_ n1_ n2_ n3_; clear hb ho14))
      go_loopg [11] k (fun kq v11 w' => ∃ (x10_1 : List Int) (x11_1 : Int), v11 = .int .i64 x11_1 ∧ Aside0 (earshotlaw12_DctFlat.l0 kq a0 t135 t136 (t136.length : Int) x10_1 x11_1 a2_0 a2_1 = some r) ∧ Aside0 (kq ≤ k) ∧ Aside0 (Kd.R (Kd.int .i64) 3 w' w.heap.size (fun k_ => some k_ ≠ (v140 : Value).ownBlock) (.slice Ao12 t136.length co12) t136) ∧ Aside0 (Kd.R (Kd.int .i64) 3 w' w.heap.size (fun k_ => some k_ ≠ ((.slice Ao12 t136.length co12) : Value).ownBlock) v140 x10_1) ∧ Aside0 (w'.heap[gb134]? = some (.cells #[.int .i64 a2_0, .int .i64 a2_1] 23 (0, 0))) ∧ Aside0 (Below w.heap.size w w'))
      case atStart => exact ⟨(y139), (0), (by first | rfl | (simp; done) | (simp [*]; done)), H', ⟨Nat.le_refl _⟩, ⟨by (with_reducible repeat (first | apply Kd.R_alloc | apply Kd.R_drewN | apply Kd.R_drew)); exact Kd.R_mono HO138.out (fun _ hk => hk.2)⟩, ⟨by (with_reducible repeat (first | apply Kd.R_alloc | apply Kd.R_drewN | apply Kd.R_drew)); exact Kd.R_mono HO141.out (fun _ hk => hk.2)⟩, ⟨by (with_reducible repeat (first | refine blk_drewN ?_ _ | refine blk_drew ?_ | refine blk_alloc ?_ _)); exact BK134.out⟩, ⟨by repeat (first | (with_reducible first | exact HB.out | apply below_alloc | apply pw_below_drewN | apply below_drew1 | refine below_set ?_ GE134.out) | exact HB.out)⟩⟩
      case round =>
        clear H'
        try clear c1
        try clear p2
        try clear c6
        try clear c6b0
        try clear c6b1
        try clear c7
        try clear c7b0
        try clear c7b1
        try clear c14
        try clear hcz10_0
        try clear hcz10_1
        try clear hfz10_0
        try clear hfz10_1
        obtain ⟨x10_1, x11_1, rfl, HA, HK1, HO_8, HO_10, BK134, HB⟩ := hrel
        cases gk with
        | zero => exact absurd HA.out (by simp [earshotlaw12_DctFlat.l0])
        | succ k1 =>
          have H := HA.out
          clear HA
          simp only [earshotlaw12_DctFlat.l0] at H
          by_cases c15 : x11_1 < (t136.length : Int)
          · rw [if_pos c15] at H
            have c15b0 : decide (x11_1 < (t136.length : Int)) = true := decide_eq_true c15
            clear c15
            by_cases c16 : 0 ≤ x11_1
            · rw [if_pos c16] at H
              have c16b0 : decide (0 ≤ x11_1) = true := decide_eq_true c16
              clear c16
              by_cases c17 : x11_1 < (x10_1.length : Int)
              · rw [if_pos c17] at H
                have c17b0 : decide (x11_1 < (x10_1.length : Int)) = true := decide_eq_true c17
                clear c17
                obtain ⟨y142, hy142⟩ : ∃ y_ : List Int, y_ = (x10_1.set (x11_1 : Int).toNat (a0 / 16777216)) := ⟨_, rfl⟩
                replace H : (earshotlaw12_DctFlat.l0 k1 a0 t135 t136 (t136.length : Int) y142 (wrap64 (x11_1 + 1)) a2_0 a2_1) = some r := by first | (rw [hy142]; with_reducible exact H) | (have H2_ := (Option.bind_some _ _).symm.trans H; rw [hy142]; with_reducible exact H2_) | (have H2_ := (Option.bind_some _ _).symm.trans H; with_reducible exact H2_) | with_reducible exact H | (rw [hy142]; exact H) | exact H
                have Ny142 := Aside0.mk hy142
                clear hy142
                have H' := Aside0.mk H
                clear H
                have p18 : 0 ≤ (x11_1 : Int) := of_decide_eq_true (by first | (with_reducible assumption) | assumption)
                have q18 : (x11_1 : Int) < ((x10_1.length : Int) : Int) := of_decide_eq_true (by first | (with_reducible assumption) | assumption)
                obtain ⟨go18, co18, eo18, gb18, gl18, cl18, HG18⟩ := Kd.R_form HO_10.out (by omega)
                (first | cases eo18 | (injection eo18 with ea_ en_ ec_; (first | subst ea_ | (injection ea_ with ea_; subst ea_)); subst ec_; clear en_))
                have GB18 := Aside0.mk gb18
                have GG18 := Aside0.mk HG18
                clear gb18 gl18 HG18
                obtain ⟨hx18_0, hf18_0⟩ := Kd.R_celln 0 HO_10.out (x11_1 : Int) p18 q18
                replace p18 := eq_true p18
                replace q18 := eq_true q18
                have HP19 := Kd.R_putg HO_10.out (x11_1 : Int) (a0 / 16777216)
                go_wp2_with (first | ((with_reducible refine gate_store (t := 3) (p := 36) rfl ?_); refine store_event (t := 3) (p := 36) (v := ?vo_w20) (w1 := (wr.setCell ⟨go18, (x11_1 : Int).toNat, none⟩ (.int .i64 (a0 / 16777216)))) ?hg ?ho ?hn ?hr ?_; (case ho => rfl); (case hg => first | rfl | exact wanted_on rfl rfl rfl (by first | assumption | rfl | (simp [*]; done))); (case hn => rfl); (case hr => first | (go_simp; done) | (go_simp; rfl)); intro w20 hw; have hg : wr.grownBy w20 (some go18) := (by rw [hw]; exact HP19.2); have hp_ : Kd.R (Kd.int .i64) 3 w20 w.heap.size (fun k_ => some k_ ≠ (.slice Ao12 t136.length co12 : Value).ownBlock) (.slice (some ⟨go18, 0, none⟩) x10_1.length co18) y142 := (by rw [hw, Ny142.out]; exact HP19.1); clear HP19; have n0_ := Aside0.mk (Kd.R_after (v := (.slice (some ⟨go18, 0, none⟩) x10_1.length co18)) (v1 := (.slice (some ⟨go18, 0, none⟩) x10_1.length co18)) (ok := (fun _ => True)) (by (with_reducible repeat (first | apply Kd.R_alloc | apply Kd.R_drewN | apply Kd.R_drew)); (first | exact Kd.R_mono HO_8.out (fun _ hk => ⟨trivial, hk⟩) | exact Kd.R_mono HO_8.out (fun _ _ => trivial))) hg (.inl rfl)); have n1_ := Aside0.mk (hp_); have n2_ := Aside0.mk (blk_grown (g := gb134) (o := .cells #[.int .i64 a2_0, .int .i64 a2_1] 23 (0, 0)) (by (with_reducible repeat (first | refine blk_drewN ?_ _ | refine blk_drew ?_ | refine blk_alloc ?_ _)); exact BK134.out) hg (Kd.R_ne HO_10.out BK134.out (by decide))); have n3_ := Aside0.mk ((by rw [hw]; exact below_set (HB.out) GB18.out : Below w.heap.size w w20)); clear HO_8; clear HO_10; clear BK134; clear HB; have HO_8 := n0_; have HO_10 := n1_; have BK134 := n2_; have HB := n3_; clear n0_ n1_ n2_ n3_; clear hg hw hp_))
                go_roundg k1
                case measure => have := HK1.out; omega
                case rel => exact ⟨(y142), (wrap64 (x11_1 + 1)), (by first | rfl | (simp; done) | (simp [*]; done)), H', ⟨by have := HK1.out; omega⟩, ⟨by (with_reducible repeat (first | apply Kd.R_alloc | apply Kd.R_drewN | apply Kd.R_drew)); exact Kd.R_mono HO_8.out (fun _ hk => hk.2)⟩, ⟨by (with_reducible repeat (first | apply Kd.R_alloc | apply Kd.R_drewN | apply Kd.R_drew)); exact HO_10.out⟩, ⟨by (with_reducible repeat (first | refine blk_drewN ?_ _ | refine blk_drew ?_ | refine blk_alloc ?_ _)); exact BK134.out⟩, ⟨by repeat (first | (with_reducible first | exact HB.out | apply below_alloc | apply pw_below_drewN | apply below_drew1 | refine below_set ?_ GE134.out) | exact HB.out)⟩⟩
              · rw [if_neg c17] at H
                exact absurd H (by simp)
            · rw [if_neg c16] at H
              exact absurd H (by simp)
          · rw [if_neg c15] at H
            have c15b0 : decide (x11_1 < (t136.length : Int)) = false := decide_eq_false c15
            clear c15
            replace H := Option.bind_eq_some_iff.mp H
            obtain ⟨t143, A210, H⟩ := H
            replace H : ((dct_Dct.f (t136.length : Int) t136).bind fun t146 => ((dct_Dct.f (wrap64 (1 + (Go.bits .and .i64 a2_1 (wrap64 ((t136.length : Int) - 1))))) t136).bind fun t149 => (if (t143.length : Int) = (t136.length : Int) then (earshotlaw12_DctFlat.j1 k1 a0 t135 (t136.length : Int) t143 t146 (wrap64 (1 + (Go.bits .and .i64 a2_1 (wrap64 ((t136.length : Int) - 1))))) t149 ((t146.length : Int) != (t136.length : Int))) else (earshotlaw12_DctFlat.j1 k1 a0 t135 (t136.length : Int) t143 t146 (wrap64 (1 + (Go.bits .and .i64 a2_1 (wrap64 ((t136.length : Int) - 1))))) t149 true)))) = some r := H
            have A21 := Aside0.mk A210
            clear A210
            replace H := Option.bind_eq_some_iff.mp H
            obtain ⟨t146, A220, H⟩ := H
            replace H : ((dct_Dct.f (wrap64 (1 + (Go.bits .and .i64 a2_1 (wrap64 ((t136.length : Int) - 1))))) t136).bind fun t149 => (if (t143.length : Int) = (t136.length : Int) then (earshotlaw12_DctFlat.j1 k1 a0 t135 (t136.length : Int) t143 t146 (wrap64 (1 + (Go.bits .and .i64 a2_1 (wrap64 ((t136.length : Int) - 1))))) t149 ((t146.length : Int) != (t136.length : Int))) else (earshotlaw12_DctFlat.j1 k1 a0 t135 (t136.length : Int) t143 t146 (wrap64 (1 + (Go.bits .and .i64 a2_1 (wrap64 ((t136.length : Int) - 1))))) t149 true))) = some r := H
            have A22 := Aside0.mk A220
            clear A220
            replace H := Option.bind_eq_some_iff.mp H
            obtain ⟨t149, A230, H⟩ := H
            replace H : (if (t143.length : Int) = (t136.length : Int) then (earshotlaw12_DctFlat.j1 k1 a0 t135 (t136.length : Int) t143 t146 (wrap64 (1 + (Go.bits .and .i64 a2_1 (wrap64 ((t136.length : Int) - 1))))) t149 ((t146.length : Int) != (t136.length : Int))) else (earshotlaw12_DctFlat.j1 k1 a0 t135 (t136.length : Int) t143 t146 (wrap64 (1 + (Go.bits .and .i64 a2_1 (wrap64 ((t136.length : Int) - 1))))) t149 true)) = some r := H
            have A23 := Aside0.mk A230
            clear A230
            have HC24 := Aside0.mk H
            clear H
            obtain ⟨Ao25, co25, eo25⟩ := Kd.R_slice HO_10.out
            subst eo25
            go_upto_region 13 with (first | ((with_reducible refine gate_callee (f := 21) rfl ?_); refine goesL_ (some 39) rfl rfl Tryd.func21 (by kernel_rfl) rfl #[.int .i64 (t136.length : Int), .slice Ao25 x10_1.length co25] rfl (by (try simp only [List.map_toArray, List.map_cons, List.map_nil]); first | done | rfl | (simp only [List.length_drop, List.length_take]; rfl)) ?_; (with_reducible refine (dct_Dct.calls (t136.length : Int) _ _ x10_1 t143 _ ?side1 ?side2 ?side3 A21.out).mono ?_); (case side1 => exact GlobA.below HG.out (by repeat (first | (with_reducible first | exact HB.out | apply below_alloc | apply pw_below_drewN | apply below_drew1 | refine below_set ?_ GE134.out) | exact HB.out))); (case side2 => repeat (first | exact (Kd.R_reads' HO_10.out).2.2 | (with_reducible refine Kd.C_alloc ?_ _) | (with_reducible refine Kd.C_drewN ?_ _) | (with_reducible refine Kd.C_drew ?_))); (case side3 => exact (Kd.R_reads' HO_10.out).2.1); rintro e w26 ⟨v144, rfl, ho0, hb⟩; refine ⟨_, rfl, ?_⟩; have n0_ := Aside0.mk (Kd.R_elder' (by (with_reducible repeat (first | apply Kd.R_alloc | apply Kd.R_drewN | apply Kd.R_drew)); (first | exact HO_8.out | exact Kd.R_mono HO_8.out (fun _ _ => trivial) | exact Kd.R_mono HO_8.out (fun _ hk => hk.1))) (Kd.R_base ho0) hb); have n1_ := Aside0.mk (Kd.R_elder' (by (with_reducible repeat (first | apply Kd.R_alloc | apply Kd.R_drewN | apply Kd.R_drew)); (first | exact HO_10.out | exact Kd.R_mono HO_10.out (fun _ _ => trivial) | exact Kd.R_mono HO_10.out (fun _ hk => hk.1))) (Kd.R_base ho0) hb); have n2_ := Aside0.mk (Kd.R_lower (Kd.R_new' (Kd.R_new' ho0 (Kd.R_lt (by (with_reducible repeat (first | apply Kd.R_alloc | apply Kd.R_drewN | apply Kd.R_drew)); (first | exact HO_8.out | exact Kd.R_mono HO_8.out (fun _ _ => trivial) | exact Kd.R_mono HO_8.out (fun _ hk => hk.1))))) (Kd.R_lt (by (with_reducible repeat (first | apply Kd.R_alloc | apply Kd.R_drewN | apply Kd.R_drew)); (first | exact HO_10.out | exact Kd.R_mono HO_10.out (fun _ _ => trivial) | exact Kd.R_mono HO_10.out (fun _ hk => hk.1))))) (below_size (by repeat (first | (with_reducible first | exact HB.out | apply below_alloc | apply pw_below_drewN | apply below_drew1 | refine below_set ?_ GE134.out) | exact HB.out)))); have n3_ := Aside0.mk (blk_below (g := gb134) (o := .cells #[.int .i64 a2_0, .int .i64 a2_1] 23 (0, 0)) (by (with_reducible repeat (first | refine blk_drewN ?_ _ | refine blk_drew ?_ | refine blk_alloc ?_ _)); exact BK134.out) hb); have n4_ := Aside0.mk (below_step (by repeat (first | (with_reducible first | exact HB.out | apply below_alloc | apply pw_below_drewN | apply below_drew1 | refine below_set ?_ GE134.out) | exact HB.out)) hb); clear HO_8; clear HO_10; clear BK134; clear HB; have HO_8 := n0_; have HO_10 := n1_; have HO145 := n2_; have BK134 := n3_; have HB := n4_; clear n0_ n1_ n2_ n3_ n4_; (try clear hb); (try clear hb2); (try clear hk); (try clear hi); (try clear ho0)) | ((with_reducible refine gate_callee (f := 21) rfl ?_); refine goesL_ (some 42) rfl rfl Tryd.func21 (by kernel_rfl) rfl #[.int .i64 (t136.length : Int), .slice Ao12 t136.length co12] rfl (by (try simp only [List.map_toArray, List.map_cons, List.map_nil]); first | done | rfl | (simp only [List.length_drop, List.length_take]; rfl)) ?_; (with_reducible refine (dct_Dct.calls (t136.length : Int) _ _ t136 t146 _ ?side1 ?side2 ?side3 A22.out).mono ?_); (case side1 => exact GlobA.below HG.out (by repeat (first | (with_reducible first | exact HB.out | apply below_alloc | apply pw_below_drewN | apply below_drew1 | refine below_set ?_ GE134.out) | exact HB.out))); (case side2 => repeat (first | exact (Kd.R_reads' HO_8.out).2.2 | (with_reducible refine Kd.C_alloc ?_ _) | (with_reducible refine Kd.C_drewN ?_ _) | (with_reducible refine Kd.C_drew ?_))); (case side3 => exact (Kd.R_reads' HO_8.out).2.1); rintro e w27 ⟨v147, rfl, ho0, hb⟩; refine ⟨_, rfl, ?_⟩; have n0_ := Aside0.mk (Kd.R_elder' (by (with_reducible repeat (first | apply Kd.R_alloc | apply Kd.R_drewN | apply Kd.R_drew)); (first | exact HO_8.out | exact Kd.R_mono HO_8.out (fun _ _ => trivial) | exact Kd.R_mono HO_8.out (fun _ hk => hk.1))) (Kd.R_base ho0) hb); have n1_ := Aside0.mk (Kd.R_elder' (by (with_reducible repeat (first | apply Kd.R_alloc | apply Kd.R_drewN | apply Kd.R_drew)); (first | exact HO_10.out | exact Kd.R_mono HO_10.out (fun _ _ => trivial) | exact Kd.R_mono HO_10.out (fun _ hk => hk.1))) (Kd.R_base ho0) hb); have n2_ := Aside0.mk (Kd.R_elder' (by (with_reducible repeat (first | apply Kd.R_alloc | apply Kd.R_drewN | apply Kd.R_drew)); (first | exact HO145.out | exact Kd.R_mono HO145.out (fun _ _ => trivial) | exact Kd.R_mono HO145.out (fun _ hk => hk.1))) (Kd.R_base ho0) hb); have n3_ := Aside0.mk (Kd.R_lower (Kd.R_new' (Kd.R_new' (Kd.R_new' ho0 (Kd.R_lt (by (with_reducible repeat (first | apply Kd.R_alloc | apply Kd.R_drewN | apply Kd.R_drew)); (first | exact HO_8.out | exact Kd.R_mono HO_8.out (fun _ _ => trivial) | exact Kd.R_mono HO_8.out (fun _ hk => hk.1))))) (Kd.R_lt (by (with_reducible repeat (first | apply Kd.R_alloc | apply Kd.R_drewN | apply Kd.R_drew)); (first | exact HO_10.out | exact Kd.R_mono HO_10.out (fun _ _ => trivial) | exact Kd.R_mono HO_10.out (fun _ hk => hk.1))))) (Kd.R_lt (by (with_reducible repeat (first | apply Kd.R_alloc | apply Kd.R_drewN | apply Kd.R_drew)); (first | exact HO145.out | exact Kd.R_mono HO145.out (fun _ _ => trivial) | exact Kd.R_mono HO145.out (fun _ hk => hk.1))))) (below_size (by repeat (first | (with_reducible first | exact HB.out | apply below_alloc | apply pw_below_drewN | apply below_drew1 | refine below_set ?_ GE134.out) | exact HB.out)))); have n4_ := Aside0.mk (blk_below (g := gb134) (o := .cells #[.int .i64 a2_0, .int .i64 a2_1] 23 (0, 0)) (by (with_reducible repeat (first | refine blk_drewN ?_ _ | refine blk_drew ?_ | refine blk_alloc ?_ _)); exact BK134.out) hb); have n5_ := Aside0.mk (below_step (by repeat (first | (with_reducible first | exact HB.out | apply below_alloc | apply pw_below_drewN | apply below_drew1 | refine below_set ?_ GE134.out) | exact HB.out)) hb); clear HO_8; clear HO_10; clear HO145; clear BK134; clear HB; have HO_8 := n0_; have HO_10 := n1_; have HO145 := n2_; have HO148 := n3_; have BK134 := n4_; have HB := n5_; clear n0_ n1_ n2_ n3_ n4_ n5_; (try clear hb); (try clear hb2); (try clear hk); (try clear hi); (try clear ho0); have hcz28_0 : w27.cell? ⟨gb134, 0, none⟩ = some (.int .i64 a2_0) := (blk_cell BK134.out 0).trans rfl; have hcz28_1 : w27.cell? ⟨gb134, 1, none⟩ = some (.int .i64 a2_1) := (blk_cell BK134.out 1).trans rfl; have hfz28_0 := blk_frozen BK134.out 0; have hfz28_1 := blk_frozen BK134.out 1) | ((with_reducible refine gate_callee (f := 21) rfl ?_); refine goesL_ (some 51) rfl rfl Tryd.func21 (by kernel_rfl) rfl #[.int .i64 (wrap64 (1 + (Go.bits .and .i64 a2_1 (wrap64 ((t136.length : Int) - 1))))), .slice Ao12 t136.length co12] rfl (by (try simp only [List.map_toArray, List.map_cons, List.map_nil]); first | done | rfl | (simp only [List.length_drop, List.length_take]; rfl)) ?_; (with_reducible refine (dct_Dct.calls (wrap64 (1 + (Go.bits .and .i64 a2_1 (wrap64 ((t136.length : Int) - 1))))) _ _ t136 t149 _ ?side1 ?side2 ?side3 A23.out).mono ?_); (case side1 => exact GlobA.below HG.out (by repeat (first | (with_reducible first | exact HB.out | apply below_alloc | apply pw_below_drewN | apply below_drew1 | refine below_set ?_ GE134.out) | exact HB.out))); (case side2 => repeat (first | exact (Kd.R_reads' HO_8.out).2.2 | (with_reducible refine Kd.C_alloc ?_ _) | (with_reducible refine Kd.C_drewN ?_ _) | (with_reducible refine Kd.C_drew ?_))); (case side3 => exact (Kd.R_reads' HO_8.out).2.1); rintro e w29 ⟨v150, rfl, ho0, hb⟩; refine ⟨_, rfl, ?_⟩; have n0_ := Aside0.mk (Kd.R_elder' (by (with_reducible repeat (first | apply Kd.R_alloc | apply Kd.R_drewN | apply Kd.R_drew)); (first | exact HO_8.out | exact Kd.R_mono HO_8.out (fun _ _ => trivial) | exact Kd.R_mono HO_8.out (fun _ hk => hk.1))) (Kd.R_base ho0) hb); have n1_ := Aside0.mk (Kd.R_elder' (by (with_reducible repeat (first | apply Kd.R_alloc | apply Kd.R_drewN | apply Kd.R_drew)); (first | exact HO_10.out | exact Kd.R_mono HO_10.out (fun _ _ => trivial) | exact Kd.R_mono HO_10.out (fun _ hk => hk.1))) (Kd.R_base ho0) hb); have n2_ := Aside0.mk (Kd.R_elder' (by (with_reducible repeat (first | apply Kd.R_alloc | apply Kd.R_drewN | apply Kd.R_drew)); (first | exact HO145.out | exact Kd.R_mono HO145.out (fun _ _ => trivial) | exact Kd.R_mono HO145.out (fun _ hk => hk.1))) (Kd.R_base ho0) hb); have n3_ := Aside0.mk (Kd.R_elder' (by (with_reducible repeat (first | apply Kd.R_alloc | apply Kd.R_drewN | apply Kd.R_drew)); (first | exact HO148.out | exact Kd.R_mono HO148.out (fun _ _ => trivial) | exact Kd.R_mono HO148.out (fun _ hk => hk.1))) (Kd.R_base ho0) hb); have n4_ := Aside0.mk (Kd.R_lower (Kd.R_new' (Kd.R_new' (Kd.R_new' (Kd.R_new' ho0 (Kd.R_lt (by (with_reducible repeat (first | apply Kd.R_alloc | apply Kd.R_drewN | apply Kd.R_drew)); (first | exact HO_8.out | exact Kd.R_mono HO_8.out (fun _ _ => trivial) | exact Kd.R_mono HO_8.out (fun _ hk => hk.1))))) (Kd.R_lt (by (with_reducible repeat (first | apply Kd.R_alloc | apply Kd.R_drewN | apply Kd.R_drew)); (first | exact HO_10.out | exact Kd.R_mono HO_10.out (fun _ _ => trivial) | exact Kd.R_mono HO_10.out (fun _ hk => hk.1))))) (Kd.R_lt (by (with_reducible repeat (first | apply Kd.R_alloc | apply Kd.R_drewN | apply Kd.R_drew)); (first | exact HO145.out | exact Kd.R_mono HO145.out (fun _ _ => trivial) | exact Kd.R_mono HO145.out (fun _ hk => hk.1))))) (Kd.R_lt (by (with_reducible repeat (first | apply Kd.R_alloc | apply Kd.R_drewN | apply Kd.R_drew)); (first | exact HO148.out | exact Kd.R_mono HO148.out (fun _ _ => trivial) | exact Kd.R_mono HO148.out (fun _ hk => hk.1))))) (below_size (by repeat (first | (with_reducible first | exact HB.out | apply below_alloc | apply pw_below_drewN | apply below_drew1 | refine below_set ?_ GE134.out) | exact HB.out)))); have n5_ := Aside0.mk (blk_below (g := gb134) (o := .cells #[.int .i64 a2_0, .int .i64 a2_1] 23 (0, 0)) (by (with_reducible repeat (first | refine blk_drewN ?_ _ | refine blk_drew ?_ | refine blk_alloc ?_ _)); exact BK134.out) hb); have n6_ := Aside0.mk (below_step (by repeat (first | (with_reducible first | exact HB.out | apply below_alloc | apply pw_below_drewN | apply below_drew1 | refine below_set ?_ GE134.out) | exact HB.out)) hb); clear HO_8; clear HO_10; clear HO145; clear HO148; clear BK134; clear HB; have HO_8 := n0_; have HO_10 := n1_; have HO145 := n2_; have HO148 := n3_; have HO151 := n4_; have BK134 := n5_; have HB := n6_; clear n0_ n1_ n2_ n3_ n4_ n5_ n6_; (try clear hb); (try clear hb2); (try clear hk); (try clear hi); (try clear ho0)))
            (try simp only [Act.put, List.setIfInBounds_toArray, List.set_cons_zero, List.set_cons_succ])
            go_cut [61] (fun v61 wc => ∃ (kq : Nat) (x61_23 : Bool), v61 = .bool x61_23 ∧ Aside0 (earshotlaw12_DctFlat.j1 kq a0 t135 (t136.length : Int) t143 t146 (wrap64 (1 + (Go.bits .and .i64 a2_1 (wrap64 ((t136.length : Int) - 1))))) t149 x61_23 = some r) ∧ Aside0 (kq ≤ k1) ∧ Aside0 (Kd.R (Kd.int .i64) 3 wc w.heap.size (fun k_ => some k_ ≠ (v147 : Value).ownBlock ∧ some k_ ≠ (v150 : Value).ownBlock) v144 t143) ∧ Aside0 (Kd.R (Kd.int .i64) 3 wc w.heap.size (fun k_ => some k_ ≠ (v144 : Value).ownBlock ∧ some k_ ≠ (v150 : Value).ownBlock) v147 t146) ∧ Aside0 (Kd.R (Kd.int .i64) 3 wc w.heap.size (fun k_ => some k_ ≠ (v144 : Value).ownBlock ∧ some k_ ≠ (v147 : Value).ownBlock) v150 t149) ∧ Aside0 (wc.heap[gb134]? = some (.cells #[.int .i64 a2_0, .int .i64 a2_1] 23 (0, 0))) ∧ Aside0 (Below w.heap.size w wc))
            case first =>
              have H := HC24.out
              clear HC24
              by_cases c30 : (t143.length : Int) = (t136.length : Int)
              · rw [if_pos c30] at H
                have c30b0 : ((t143.length : Int) == (t136.length : Int)) = true := beq_iff_eq.mpr c30
                have c30b1 : ((t143.length : Int) != (t136.length : Int)) = false := bne_eq_false_iff_eq.mpr c30
                have c30b2 : (t143.length == t136.length) = true := by first | simpa using c30 | (simp at c30 ⊢; omega)
                clear c30
                (first | rw [c30b0] | (simp only [i64_w, i32_w]; rw [c30b0]) | skip)
                have H' := Aside0.mk H
                clear H
                obtain ⟨Ao31, co31, eo31⟩ := Kd.R_slice HO145.out
                subst eo31
                obtain ⟨Ao32, co32, eo32⟩ := Kd.R_slice HO148.out
                subst eo32
                go_wp2
                go_meet
                case rel => exact ⟨_, (((t146.length : Int) != (t136.length : Int))), (by first | rfl | (simp; done) | (simp [*]; done)), H', ⟨by have := HK1.out; first | omega | exact Nat.le_refl _⟩, ⟨by (with_reducible repeat (first | apply Kd.R_alloc | apply Kd.R_drewN | apply Kd.R_drew)); exact Kd.R_mono HO145.out (fun _ hk => ⟨hk.1.2, hk.2⟩)⟩, ⟨by (with_reducible repeat (first | apply Kd.R_alloc | apply Kd.R_drewN | apply Kd.R_drew)); exact Kd.R_mono HO148.out (fun _ hk => ⟨hk.1.2, hk.2⟩)⟩, ⟨by (with_reducible repeat (first | apply Kd.R_alloc | apply Kd.R_drewN | apply Kd.R_drew)); exact Kd.R_mono HO151.out (fun _ hk => ⟨hk.1.2, hk.2⟩)⟩, ⟨by (with_reducible repeat (first | refine blk_drewN ?_ _ | refine blk_drew ?_ | refine blk_alloc ?_ _)); exact BK134.out⟩, ⟨by repeat (first | (with_reducible first | exact HB.out | apply below_alloc | apply pw_below_drewN | apply below_drew1 | refine below_set ?_ GE134.out) | exact HB.out)⟩⟩
              · rw [if_neg c30] at H
                have c30b0 : ((t143.length : Int) == (t136.length : Int)) = false := beq_eq_false_iff_ne.mpr c30
                have c30b1 : ((t143.length : Int) != (t136.length : Int)) = true := bne_iff_ne.mpr c30
                have c30b2 : (t143.length == t136.length) = false := by first | simpa using c30 | (simp at c30 ⊢; omega)
                (first | rw [c30b0] | (simp only [i64_w, i32_w]; rw [c30b0]) | skip)
                have H' := Aside0.mk H
                clear H
                obtain ⟨Ao33, co33, eo33⟩ := Kd.R_slice HO145.out
                subst eo33
                go_wp2
                go_meet
                case rel => exact ⟨_, (true), (by first | rfl | (simp; done) | (simp [*]; done)), H', ⟨by have := HK1.out; first | omega | exact Nat.le_refl _⟩, ⟨by (with_reducible repeat (first | apply Kd.R_alloc | apply Kd.R_drewN | apply Kd.R_drew)); exact Kd.R_mono HO145.out (fun _ hk => ⟨hk.1.2, hk.2⟩)⟩, ⟨by (with_reducible repeat (first | apply Kd.R_alloc | apply Kd.R_drewN | apply Kd.R_drew)); exact Kd.R_mono HO148.out (fun _ hk => ⟨hk.1.2, hk.2⟩)⟩, ⟨by (with_reducible repeat (first | apply Kd.R_alloc | apply Kd.R_drewN | apply Kd.R_drew)); exact Kd.R_mono HO151.out (fun _ hk => ⟨hk.1.2, hk.2⟩)⟩, ⟨by (with_reducible repeat (first | refine blk_drewN ?_ _ | refine blk_drew ?_ | refine blk_alloc ?_ _)); exact BK134.out⟩, ⟨by repeat (first | (with_reducible first | exact HB.out | apply below_alloc | apply pw_below_drewN | apply below_drew1 | refine below_set ?_ GE134.out) | exact HB.out)⟩⟩
            case rest =>
              clear HC24
              try clear c1
              try clear p1
              try clear q1
              try clear hx1
              try clear c2
              try clear p2
              try clear c3
              try clear c6
              try clear c6b0
              try clear c6b1
              try clear p6
              try clear c7
              try clear c7b0
              try clear c7b1
              try clear c14
              try clear c15
              try clear c15b0
              try clear c16
              try clear c16b0
              try clear c17
              try clear c17b0
              try clear p18
              try clear q18
              try clear hx18
              try clear hf18
              try clear c21
              try clear c30
              try clear c30b0
              try clear c30b1
              try clear c30b2
              try clear hcz10_0
              try clear hcz10_1
              try clear hcz28_0
              try clear hcz28_1
              try clear hfz10_0
              try clear hfz10_1
              try clear hfz28_0
              try clear hfz28_1
              try clear hx18_0
              try clear p18
              try clear p2
              try clear q18
              obtain ⟨kq, x61_23, rfl, HA, HJ23, HO_12, HO_13, HO_15, BK134, HB⟩ := hcut
              cases kq with
              | zero => exact absurd HA.out (by simp [earshotlaw12_DctFlat.j1])
              | succ kj23 =>
                have H := HA.out
                clear HA
                simp only [earshotlaw12_DctFlat.j1] at H
                by_cases c34 : x61_23 = true
                · subst c34
                  have H1 : (some false) = some r := by rw [if_pos rfl] at H; exact H
                  clear H
                  have H := H1
                  clear H1
                  obtain rfl := Option.some.inj H
                  go_wp2
                  go_ret
                  exact ⟨by first | rfl | (simp [errW_none, errW_some] <;> rfl) | (simp [*, errW_none, errW_some] <;> rfl), by repeat (first | (with_reducible first | exact HB.out | apply below_alloc | apply pw_below_drewN | apply below_drew1 | refine below_set ?_ GE134.out) | exact HB.out)⟩
                · replace c34 := Bool.eq_false_iff.mpr c34
                  subst c34
                  have H1 : (earshotlaw12_DctFlat.l1 kj23 a0 t135 (t136.length : Int) t143 t146 (wrap64 (1 + (Go.bits .and .i64 a2_1 (wrap64 ((t136.length : Int) - 1))))) t149 0) = some r := by rw [if_neg (show ¬ (false = true) by decide)] at H; exact H
                  clear H
                  have H := H1
                  clear H1
                  have H' := Aside0.mk H
                  clear H
                  go_wp2
                  go_loopg [16] kj23 (fun kq v16 w' => ∃ (x16_3 : Int), v16 = .int .i64 x16_3 ∧ Aside0 (earshotlaw12_DctFlat.l1 kq a0 t135 (t136.length : Int) t143 t146 (wrap64 (1 + (Go.bits .and .i64 a2_1 (wrap64 ((t136.length : Int) - 1))))) t149 x16_3 = some r) ∧ Aside0 (kq ≤ kj23) ∧ Aside0 (Kd.R (Kd.int .i64) 3 w' w.heap.size (fun k_ => some k_ ≠ (v147 : Value).ownBlock ∧ some k_ ≠ (v150 : Value).ownBlock) v144 t143) ∧ Aside0 (Kd.R (Kd.int .i64) 3 w' w.heap.size (fun k_ => some k_ ≠ (v144 : Value).ownBlock ∧ some k_ ≠ (v150 : Value).ownBlock) v147 t146) ∧ Aside0 (Kd.R (Kd.int .i64) 3 w' w.heap.size (fun k_ => some k_ ≠ (v144 : Value).ownBlock ∧ some k_ ≠ (v147 : Value).ownBlock) v150 t149) ∧ Aside0 (w'.heap[gb134]? = some (.cells #[.int .i64 a2_0, .int .i64 a2_1] 23 (0, 0))) ∧ Aside0 (Below w.heap.size w w'))
                  case atStart => exact ⟨(0), (by first | rfl | (simp; done) | (simp [*]; done)), H', ⟨Nat.le_refl _⟩, ⟨by (with_reducible repeat (first | apply Kd.R_alloc | apply Kd.R_drewN | apply Kd.R_drew)); exact HO_12.out⟩, ⟨by (with_reducible repeat (first | apply Kd.R_alloc | apply Kd.R_drewN | apply Kd.R_drew)); exact HO_13.out⟩, ⟨by (with_reducible repeat (first | apply Kd.R_alloc | apply Kd.R_drewN | apply Kd.R_drew)); exact HO_15.out⟩, ⟨by (with_reducible repeat (first | refine blk_drewN ?_ _ | refine blk_drew ?_ | refine blk_alloc ?_ _)); exact BK134.out⟩, ⟨by repeat (first | (with_reducible first | exact HB.out | apply below_alloc | apply pw_below_drewN | apply below_drew1 | refine below_set ?_ GE134.out) | exact HB.out)⟩⟩
                  case round =>
                    clear H'
                    try clear c1
                    try clear p1
                    try clear q1
                    try clear hx1
                    try clear c2
                    try clear p2
                    try clear c3
                    try clear c6
                    try clear c6b0
                    try clear c6b1
                    try clear p6
                    try clear c7
                    try clear c7b0
                    try clear c7b1
                    try clear c14
                    try clear c15
                    try clear c15b0
                    try clear c16
                    try clear c16b0
                    try clear c17
                    try clear c17b0
                    try clear p18
                    try clear q18
                    try clear hx18
                    try clear hf18
                    try clear c21
                    try clear c30
                    try clear c30b0
                    try clear c30b1
                    try clear c30b2
                    try clear c34
                    try clear hcz10_0
                    try clear hcz10_1
                    try clear hcz28_0
                    try clear hcz28_1
                    try clear hfz10_0
                    try clear hfz10_1
                    try clear hfz28_0
                    try clear hfz28_1
                    try clear hx18_0
                    try clear p1
                    try clear p18
                    try clear p2
                    try clear p6
                    try clear q1
                    try clear q18
                    obtain ⟨x16_3, rfl, HA, HK3, HO_12, HO_13, HO_15, BK134, HB⟩ := hrel
                    cases gk with
                    | zero => exact absurd HA.out (by simp [earshotlaw12_DctFlat.l1])
                    | succ k3 =>
                      have H := HA.out
                      clear HA
                      simp only [earshotlaw12_DctFlat.l1] at H
                      by_cases c35 : x16_3 < (t136.length : Int)
                      · rw [if_pos c35] at H
                        have c35b0 : decide (x16_3 < (t136.length : Int)) = true := decide_eq_true c35
                        clear c35
                        by_cases c36 : x16_3 = 0
                        · rw [if_pos c36] at H
                          have c36b0 : (x16_3 == 0) = true := beq_iff_eq.mpr c36
                          have c36b1 : (x16_3 != 0) = false := bne_eq_false_iff_eq.mpr c36
                          clear c36
                          by_cases c37 : 0 ≤ x16_3
                          · rw [if_pos c37] at H
                            have c37b0 : decide (0 ≤ x16_3) = true := decide_eq_true c37
                            clear c37
                            by_cases c38 : x16_3 < (t143.length : Int)
                            · rw [if_pos c38] at H
                              have c38b0 : decide (x16_3 < (t143.length : Int)) = true := decide_eq_true c38
                              clear c38
                              by_cases c39 : (rd t143 x16_3) = (wrap64 ((t136.length : Int) * (a0 / 16777216)))
                              · rw [if_pos c39] at H
                                have c39b0 : ((rd t143 x16_3) == (wrap64 ((t136.length : Int) * (a0 / 16777216)))) = true := beq_iff_eq.mpr c39
                                have c39b1 : ((rd t143 x16_3) != (wrap64 ((t136.length : Int) * (a0 / 16777216)))) = false := bne_eq_false_iff_eq.mpr c39
                                clear c39
                                by_cases c40 : x16_3 > 0
                                · rw [if_pos c40] at H
                                  have c40b0 : decide (0 < x16_3) = true := decide_eq_true c40
                                  clear c40
                                  by_cases c41 : (rd t143 x16_3) = 0
                                  · rw [if_pos c41] at H
                                    have c41b0 : ((rd t143 x16_3) == 0) = true := beq_iff_eq.mpr c41
                                    have c41b1 : ((rd t143 x16_3) != 0) = false := bne_eq_false_iff_eq.mpr c41
                                    clear c41
                                    have H' := Aside0.mk H
                                    clear H
                                    obtain ⟨Ao42, co42, eo42⟩ := Kd.R_slice HO_12.out
                                    subst eo42
                                    have p152 : 0 ≤ (x16_3 : Int) := of_decide_eq_true (by first | (with_reducible assumption) | assumption)
                                    have q152 : x16_3 < (t143.length : Int) := of_decide_eq_true (by first | (with_reducible assumption) | assumption)
                                    obtain ⟨ad152, e152, hx152_0⟩ := Kd.at_int (Kd.R_reads' HO_12.out).2.2 x16_3 p152 q152
                                    cases e152
                                    replace p152 := eq_true p152
                                    replace q152 := eq_true q152
                                    have p153 : 0 ≤ (x16_3 : Int) := of_decide_eq_true (by first | (with_reducible assumption) | assumption)
                                    have q153 : x16_3 < (t143.length : Int) := of_decide_eq_true (by first | (with_reducible assumption) | assumption)
                                    obtain ⟨ad153, e153, hx153_0⟩ := Kd.at_int (Kd.R_reads' HO_12.out).2.2 x16_3 p153 q153
                                    obtain rfl : ad152 = ad153 := (by injection e153)
                                    replace p153 := eq_true p153
                                    replace q153 := eq_true q153
                                    go_wp2
                                    go_roundg k3
                                    case measure => have := HK1.out; have := HJ23.out; have := HK3.out; omega
                                    case rel => exact ⟨(wrap64 (x16_3 + 1)), (by first | rfl | (simp; done) | (simp [*]; done)), H', ⟨by have := HK1.out; have := HJ23.out; have := HK3.out; omega⟩, ⟨by (with_reducible repeat (first | apply Kd.R_alloc | apply Kd.R_drewN | apply Kd.R_drew)); exact HO_12.out⟩, ⟨by (with_reducible repeat (first | apply Kd.R_alloc | apply Kd.R_drewN | apply Kd.R_drew)); exact HO_13.out⟩, ⟨by (with_reducible repeat (first | apply Kd.R_alloc | apply Kd.R_drewN | apply Kd.R_drew)); exact HO_15.out⟩, ⟨by (with_reducible repeat (first | refine blk_drewN ?_ _ | refine blk_drew ?_ | refine blk_alloc ?_ _)); exact BK134.out⟩, ⟨by repeat (first | (with_reducible first | exact HB.out | apply below_alloc | apply pw_below_drewN | apply below_drew1 | refine below_set ?_ GE134.out) | exact HB.out)⟩⟩
                                  · rw [if_neg c41] at H
                                    have c41b0 : ((rd t143 x16_3) == 0) = false := beq_eq_false_iff_ne.mpr c41
                                    have c41b1 : ((rd t143 x16_3) != 0) = true := bne_iff_ne.mpr c41
                                    obtain rfl := Option.some.inj H
                                    obtain ⟨Ao43, co43, eo43⟩ := Kd.R_slice HO_12.out
                                    subst eo43
                                    have p152 : 0 ≤ (x16_3 : Int) := of_decide_eq_true (by first | (with_reducible assumption) | assumption)
                                    have q152 : x16_3 < (t143.length : Int) := of_decide_eq_true (by first | (with_reducible assumption) | assumption)
                                    obtain ⟨ad152, e152, hx152_0⟩ := Kd.at_int (Kd.R_reads' HO_12.out).2.2 x16_3 p152 q152
                                    cases e152
                                    replace p152 := eq_true p152
                                    replace q152 := eq_true q152
                                    have p153 : 0 ≤ (x16_3 : Int) := of_decide_eq_true (by first | (with_reducible assumption) | assumption)
                                    have q153 : x16_3 < (t143.length : Int) := of_decide_eq_true (by first | (with_reducible assumption) | assumption)
                                    obtain ⟨ad153, e153, hx153_0⟩ := Kd.at_int (Kd.R_reads' HO_12.out).2.2 x16_3 p153 q153
                                    obtain rfl : ad152 = ad153 := (by injection e153)
                                    replace p153 := eq_true p153
                                    replace q153 := eq_true q153
                                    go_wp2
                                    go_ret
                                    exact ⟨by first | rfl | (simp [errW_none, errW_some] <;> rfl) | (simp [*, errW_none, errW_some] <;> rfl), by repeat (first | (with_reducible first | exact HB.out | apply below_alloc | apply pw_below_drewN | apply below_drew1 | refine below_set ?_ GE134.out) | exact HB.out)⟩
                                · rw [if_neg c40] at H
                                  have c40b0 : decide (0 < x16_3) = false := decide_eq_false c40
                                  clear c40
                                  have H' := Aside0.mk H
                                  clear H
                                  obtain ⟨Ao44, co44, eo44⟩ := Kd.R_slice HO_12.out
                                  subst eo44
                                  have p152 : 0 ≤ (x16_3 : Int) := of_decide_eq_true (by first | (with_reducible assumption) | assumption)
                                  have q152 : x16_3 < (t143.length : Int) := of_decide_eq_true (by first | (with_reducible assumption) | assumption)
                                  obtain ⟨ad152, e152, hx152_0⟩ := Kd.at_int (Kd.R_reads' HO_12.out).2.2 x16_3 p152 q152
                                  cases e152
                                  replace p152 := eq_true p152
                                  replace q152 := eq_true q152
                                  go_wp2
                                  go_roundg k3
                                  case measure => have := HK1.out; have := HJ23.out; have := HK3.out; omega
                                  case rel => exact ⟨(wrap64 (x16_3 + 1)), (by first | rfl | (simp; done) | (simp [*]; done)), H', ⟨by have := HK1.out; have := HJ23.out; have := HK3.out; omega⟩, ⟨by (with_reducible repeat (first | apply Kd.R_alloc | apply Kd.R_drewN | apply Kd.R_drew)); exact HO_12.out⟩, ⟨by (with_reducible repeat (first | apply Kd.R_alloc | apply Kd.R_drewN | apply Kd.R_drew)); exact HO_13.out⟩, ⟨by (with_reducible repeat (first | apply Kd.R_alloc | apply Kd.R_drewN | apply Kd.R_drew)); exact HO_15.out⟩, ⟨by (with_reducible repeat (first | refine blk_drewN ?_ _ | refine blk_drew ?_ | refine blk_alloc ?_ _)); exact BK134.out⟩, ⟨by repeat (first | (with_reducible first | exact HB.out | apply below_alloc | apply pw_below_drewN | apply below_drew1 | refine below_set ?_ GE134.out) | exact HB.out)⟩⟩
                              · rw [if_neg c39] at H
                                have c39b0 : ((rd t143 x16_3) == (wrap64 ((t136.length : Int) * (a0 / 16777216)))) = false := beq_eq_false_iff_ne.mpr c39
                                have c39b1 : ((rd t143 x16_3) != (wrap64 ((t136.length : Int) * (a0 / 16777216)))) = true := bne_iff_ne.mpr c39
                                obtain rfl := Option.some.inj H
                                obtain ⟨Ao45, co45, eo45⟩ := Kd.R_slice HO_12.out
                                subst eo45
                                have p152 : 0 ≤ (x16_3 : Int) := of_decide_eq_true (by first | (with_reducible assumption) | assumption)
                                have q152 : x16_3 < (t143.length : Int) := of_decide_eq_true (by first | (with_reducible assumption) | assumption)
                                obtain ⟨ad152, e152, hx152_0⟩ := Kd.at_int (Kd.R_reads' HO_12.out).2.2 x16_3 p152 q152
                                cases e152
                                replace p152 := eq_true p152
                                replace q152 := eq_true q152
                                go_wp2
                                go_ret
                                exact ⟨by first | rfl | (simp [errW_none, errW_some] <;> rfl) | (simp [*, errW_none, errW_some] <;> rfl), by repeat (first | (with_reducible first | exact HB.out | apply below_alloc | apply pw_below_drewN | apply below_drew1 | refine below_set ?_ GE134.out) | exact HB.out)⟩
                            · rw [if_neg c38] at H
                              exact absurd H (by simp)
                          · rw [if_neg c37] at H
                            exact absurd H (by simp)
                        · rw [if_neg c36] at H
                          have c36b0 : (x16_3 == 0) = false := beq_eq_false_iff_ne.mpr c36
                          have c36b1 : (x16_3 != 0) = true := bne_iff_ne.mpr c36
                          by_cases c46 : x16_3 > 0
                          · rw [if_pos c46] at H
                            have c46b0 : decide (0 < x16_3) = true := decide_eq_true c46
                            clear c46
                            by_cases c47 : 0 ≤ x16_3
                            · rw [if_pos c47] at H
                              have c47b0 : decide (0 ≤ x16_3) = true := decide_eq_true c47
                              clear c47
                              by_cases c48 : x16_3 < (t143.length : Int)
                              · rw [if_pos c48] at H
                                have c48b0 : decide (x16_3 < (t143.length : Int)) = true := decide_eq_true c48
                                clear c48
                                by_cases c49 : (rd t143 x16_3) = 0
                                · rw [if_pos c49] at H
                                  have c49b0 : ((rd t143 x16_3) == 0) = true := beq_iff_eq.mpr c49
                                  have c49b1 : ((rd t143 x16_3) != 0) = false := bne_eq_false_iff_eq.mpr c49
                                  clear c49
                                  have H' := Aside0.mk H
                                  clear H
                                  obtain ⟨Ao50, co50, eo50⟩ := Kd.R_slice HO_12.out
                                  subst eo50
                                  have p154 : 0 ≤ (x16_3 : Int) := of_decide_eq_true (by first | (with_reducible assumption) | assumption)
                                  have q154 : x16_3 < (t143.length : Int) := of_decide_eq_true (by first | (with_reducible assumption) | assumption)
                                  obtain ⟨ad154, e154, hx154_0⟩ := Kd.at_int (Kd.R_reads' HO_12.out).2.2 x16_3 p154 q154
                                  cases e154
                                  replace p154 := eq_true p154
                                  replace q154 := eq_true q154
                                  go_wp2
                                  go_roundg k3
                                  case measure => have := HK1.out; have := HJ23.out; have := HK3.out; omega
                                  case rel => exact ⟨(wrap64 (x16_3 + 1)), (by first | rfl | (simp; done) | (simp [*]; done)), H', ⟨by have := HK1.out; have := HJ23.out; have := HK3.out; omega⟩, ⟨by (with_reducible repeat (first | apply Kd.R_alloc | apply Kd.R_drewN | apply Kd.R_drew)); exact HO_12.out⟩, ⟨by (with_reducible repeat (first | apply Kd.R_alloc | apply Kd.R_drewN | apply Kd.R_drew)); exact HO_13.out⟩, ⟨by (with_reducible repeat (first | apply Kd.R_alloc | apply Kd.R_drewN | apply Kd.R_drew)); exact HO_15.out⟩, ⟨by (with_reducible repeat (first | refine blk_drewN ?_ _ | refine blk_drew ?_ | refine blk_alloc ?_ _)); exact BK134.out⟩, ⟨by repeat (first | (with_reducible first | exact HB.out | apply below_alloc | apply pw_below_drewN | apply below_drew1 | refine below_set ?_ GE134.out) | exact HB.out)⟩⟩
                                · rw [if_neg c49] at H
                                  have c49b0 : ((rd t143 x16_3) == 0) = false := beq_eq_false_iff_ne.mpr c49
                                  have c49b1 : ((rd t143 x16_3) != 0) = true := bne_iff_ne.mpr c49
                                  obtain rfl := Option.some.inj H
                                  obtain ⟨Ao51, co51, eo51⟩ := Kd.R_slice HO_12.out
                                  subst eo51
                                  have p154 : 0 ≤ (x16_3 : Int) := of_decide_eq_true (by first | (with_reducible assumption) | assumption)
                                  have q154 : x16_3 < (t143.length : Int) := of_decide_eq_true (by first | (with_reducible assumption) | assumption)
                                  obtain ⟨ad154, e154, hx154_0⟩ := Kd.at_int (Kd.R_reads' HO_12.out).2.2 x16_3 p154 q154
                                  cases e154
                                  replace p154 := eq_true p154
                                  replace q154 := eq_true q154
                                  go_wp2
                                  go_ret
                                  exact ⟨by first | rfl | (simp [errW_none, errW_some] <;> rfl) | (simp [*, errW_none, errW_some] <;> rfl), by repeat (first | (with_reducible first | exact HB.out | apply below_alloc | apply pw_below_drewN | apply below_drew1 | refine below_set ?_ GE134.out) | exact HB.out)⟩
                              · rw [if_neg c48] at H
                                exact absurd H (by simp)
                            · rw [if_neg c47] at H
                              exact absurd H (by simp)
                          · rw [if_neg c46] at H
                            have c46b0 : decide (0 < x16_3) = false := decide_eq_false c46
                            clear c46
                            have H' := Aside0.mk H
                            clear H
                            go_wp2
                            go_roundg k3
                            case measure => have := HK1.out; have := HJ23.out; have := HK3.out; omega
                            case rel => exact ⟨(wrap64 (x16_3 + 1)), (by first | rfl | (simp; done) | (simp [*]; done)), H', ⟨by have := HK1.out; have := HJ23.out; have := HK3.out; omega⟩, ⟨by (with_reducible repeat (first | apply Kd.R_alloc | apply Kd.R_drewN | apply Kd.R_drew)); exact HO_12.out⟩, ⟨by (with_reducible repeat (first | apply Kd.R_alloc | apply Kd.R_drewN | apply Kd.R_drew)); exact HO_13.out⟩, ⟨by (with_reducible repeat (first | apply Kd.R_alloc | apply Kd.R_drewN | apply Kd.R_drew)); exact HO_15.out⟩, ⟨by (with_reducible repeat (first | refine blk_drewN ?_ _ | refine blk_drew ?_ | refine blk_alloc ?_ _)); exact BK134.out⟩, ⟨by repeat (first | (with_reducible first | exact HB.out | apply below_alloc | apply pw_below_drewN | apply below_drew1 | refine below_set ?_ GE134.out) | exact HB.out)⟩⟩
                      · rw [if_neg c35] at H
                        have c35b0 : decide (x16_3 < (t136.length : Int)) = false := decide_eq_false c35
                        clear c35
                        obtain ⟨ji52, hji52⟩ : ∃ j_ : Int, (wrap64 (1 + (Go.bits .and .i64 a2_1 (wrap64 ((t136.length : Int) - 1))))) = j_ := ⟨_, rfl⟩
                        replace H : (if 0 ≤ (ji52) then (if (ji52) ≤ (t146.length : Int) then ((earshotref04_Same.f k3 t149 (t146.take ((ji52) : Int).toNat)).bind fun t159 => (if t135 = true then (some t159) else (some false))) else (none)) else (none)) = some r := by first | (rw [hji52] at H; exact H) | (simp only [hji52] at H ⊢; exact H)
                        have hji52w : (IntKind.i64.wrap (1 + (Go.bits .and .i64 a2_1 (wrap64 ((t136.length : Int) - 1))))) = ji52 := (i64_w _).trans hji52
                        by_cases c53 : 0 ≤ (ji52)
                        · rw [if_pos c53] at H
                          have c53b0 := eq_true c53
                          have c53b1 : decide (0 ≤ (ji52)) = true := decide_eq_true c53
                          clear c53
                          by_cases c54 : (ji52) ≤ (t146.length : Int)
                          · rw [if_pos c54] at H
                            have c54b0 := eq_true c54
                            have c54b1 : decide ((ji52) ≤ (t146.length : Int)) = true := decide_eq_true c54
                            clear c54
                            obtain ⟨y155, hy155⟩ : ∃ y_ : List Int, y_ = (t146.take ((ji52) : Int).toNat) := ⟨_, rfl⟩
                            replace H : ((earshotref04_Same.f k3 t149 y155).bind fun t159 => (if t135 = true then (some t159) else (some false))) = some r := by first | (rw [hy155]; with_reducible exact H) | (have H2_ := (Option.bind_some _ _).symm.trans H; rw [hy155]; with_reducible exact H2_) | (have H2_ := (Option.bind_some _ _).symm.trans H; with_reducible exact H2_) | with_reducible exact H | (rw [hy155]; exact H) | exact H
                            have Ny155 := Aside0.mk hy155
                            clear hy155
                            replace H := Option.bind_eq_some_iff.mp H
                            obtain ⟨t159, A550, H⟩ := H
                            replace H : (if t135 = true then (some t159) else (some false)) = some r := H
                            have A55 := Aside0.mk A550
                            clear A550
                            by_cases c56 : t135 = true
                            · subst c56
                              have H1 : (some t159) = some r := by rw [if_pos rfl] at H; exact H
                              clear H
                              have H := H1
                              clear H1
                              obtain rfl := Option.some.inj H
                              obtain ⟨Ao58, co58, eo58⟩ := Kd.R_slice HO_13.out
                              subst eo58
                              have q57 : ((ji52) : Int) ≤ ((t146.length : Int) : Int) := of_decide_eq_true (by first | (with_reducible assumption) | assumption)
                              obtain ⟨i057, hi057, _, hsz57, _⟩ := info_parts info3
                              have hroom57 : t146.length ≤ co58 := (Kd.R_reads' HO_13.out).2.1
                              have hC57 : Kd.C (Kd.int .i64) _ Ao58 t146.length t146 := (Kd.R_reads' HO_13.out).2.2
                              have hcut57 := cut_to (P := Tryd.prog) 22 3 .i64 Tryd.underlying22 hi057 Ao58 t146.length co58 (ji52) (of_decide_eq_true (by first | (with_reducible assumption) | assumption)) q57 hroom57
                              have hr57 := Kd.C_take (m := ((ji52) : Int).toNat) hC57 (by omega)
                              have hy57 : y155.length = ((ji52) : Int).toNat := (by rw [Ny155.out, List.length_take]; omega)
                              rw [← Ny155.out] at hr57
                              rw [← hy57] at hcut57
                              have HR158 := Aside0.mk hr57
                              have HC158 := Aside0.mk (show y155.length ≤ co58 from by omega)
                              clear hr57 hC57 hroom57 hi057 hsz57
                              have KY57 := Aside0.mk hy57
                              clear hy57
                              have KL57 := Aside0.mk (show ((ji52) : Int).toNat ≤ t146.length from by omega)
                              replace q57 := eq_true q57
                              obtain ⟨Ao59, co59, eo59⟩ := Kd.R_slice HO_15.out
                              subst eo59
                              go_wp2_with (first | ((with_reducible refine gate_callee (f := 16) rfl ?_); refine goesL_ (some 95) rfl rfl Tryd.func16 (by kernel_rfl) rfl #[.slice Ao59 t149.length co59, .slice Ao58 y155.length co58] rfl (by (try simp only [List.map_toArray, List.map_cons, List.map_nil]); first | done | rfl | (simp only [List.length_drop, List.length_take]; rfl)) ?_; (with_reducible refine (earshotref04_Same.calls k3 _ _ t149 _ _ y155 t159 _ ?side1 ?side2 ?side3 ?side4 A55.out).mono ?_); (case side1 => repeat (first | exact (Kd.R_reads' HO_15.out).2.2 | (with_reducible refine Kd.C_alloc ?_ _) | (with_reducible refine Kd.C_drewN ?_ _) | (with_reducible refine Kd.C_drew ?_))); (case side2 => exact (Kd.R_reads' HO_15.out).2.1); (case side3 => repeat (first | exact (by repeat (first | (with_reducible exact HR158.out) | (with_reducible refine Kd.C_alloc ?_ _) | (with_reducible refine Kd.C_drewN ?_ _) | (with_reducible refine Kd.C_drew ?_) | exact HR158.out)) | (with_reducible refine Kd.C_alloc ?_ _) | (with_reducible refine Kd.C_drewN ?_ _) | (with_reducible refine Kd.C_drew ?_))); (case side4 => exact HC158.out); rintro e w' ⟨rfl, ⟨nd, rfl⟩⟩; refine ⟨_, rfl, ?_⟩))
                              go_ret
                              exact ⟨by first | rfl | (simp [errW_none, errW_some] <;> rfl) | (simp only [← hji52]; first | rfl | (simp [errW_none, errW_some] <;> rfl)) | (simp [*, errW_none, errW_some] <;> rfl), by repeat (first | (with_reducible first | exact HB.out | apply below_alloc | apply pw_below_drewN | apply below_drew1 | refine below_set ?_ GE134.out) | exact HB.out)⟩
                            · replace c56 := Bool.eq_false_iff.mpr c56
                              subst c56
                              have H1 : (some false) = some r := by rw [if_neg (show ¬ (false = true) by decide)] at H; exact H
                              clear H
                              have H := H1
                              clear H1
                              obtain rfl := Option.some.inj H
                              obtain ⟨Ao61, co61, eo61⟩ := Kd.R_slice HO_13.out
                              subst eo61
                              have q60 : ((ji52) : Int) ≤ ((t146.length : Int) : Int) := of_decide_eq_true (by first | (with_reducible assumption) | assumption)
                              obtain ⟨i060, hi060, _, hsz60, _⟩ := info_parts info3
                              have hroom60 : t146.length ≤ co61 := (Kd.R_reads' HO_13.out).2.1
                              have hC60 : Kd.C (Kd.int .i64) _ Ao61 t146.length t146 := (Kd.R_reads' HO_13.out).2.2
                              have hcut60 := cut_to (P := Tryd.prog) 22 3 .i64 Tryd.underlying22 hi060 Ao61 t146.length co61 (ji52) (of_decide_eq_true (by first | (with_reducible assumption) | assumption)) q60 hroom60
                              have hr60 := Kd.C_take (m := ((ji52) : Int).toNat) hC60 (by omega)
                              have hy60 : y155.length = ((ji52) : Int).toNat := (by rw [Ny155.out, List.length_take]; omega)
                              rw [← Ny155.out] at hr60
                              rw [← hy60] at hcut60
                              have HR158 := Aside0.mk hr60
                              have HC158 := Aside0.mk (show y155.length ≤ co61 from by omega)
                              clear hr60 hC60 hroom60 hi060 hsz60
                              have KY60 := Aside0.mk hy60
                              clear hy60
                              have KL60 := Aside0.mk (show ((ji52) : Int).toNat ≤ t146.length from by omega)
                              replace q60 := eq_true q60
                              obtain ⟨Ao62, co62, eo62⟩ := Kd.R_slice HO_15.out
                              subst eo62
                              go_wp2_with (first | ((with_reducible refine gate_callee (f := 16) rfl ?_); refine goesL_ (some 95) rfl rfl Tryd.func16 (by kernel_rfl) rfl #[.slice Ao62 t149.length co62, .slice Ao61 y155.length co61] rfl (by (try simp only [List.map_toArray, List.map_cons, List.map_nil]); first | done | rfl | (simp only [List.length_drop, List.length_take]; rfl)) ?_; (with_reducible refine (earshotref04_Same.calls k3 _ _ t149 _ _ y155 t159 _ ?side1 ?side2 ?side3 ?side4 A55.out).mono ?_); (case side1 => repeat (first | exact (Kd.R_reads' HO_15.out).2.2 | (with_reducible refine Kd.C_alloc ?_ _) | (with_reducible refine Kd.C_drewN ?_ _) | (with_reducible refine Kd.C_drew ?_))); (case side2 => exact (Kd.R_reads' HO_15.out).2.1); (case side3 => repeat (first | exact (by repeat (first | (with_reducible exact HR158.out) | (with_reducible refine Kd.C_alloc ?_ _) | (with_reducible refine Kd.C_drewN ?_ _) | (with_reducible refine Kd.C_drew ?_) | exact HR158.out)) | (with_reducible refine Kd.C_alloc ?_ _) | (with_reducible refine Kd.C_drewN ?_ _) | (with_reducible refine Kd.C_drew ?_))); (case side4 => exact HC158.out); rintro e w' ⟨rfl, ⟨nd, rfl⟩⟩; refine ⟨_, rfl, ?_⟩))
                              go_ret
                              exact ⟨by first | rfl | (simp [errW_none, errW_some] <;> rfl) | (simp only [← hji52]; first | rfl | (simp [errW_none, errW_some] <;> rfl)) | (simp [*, errW_none, errW_some] <;> rfl), by repeat (first | (with_reducible first | exact HB.out | apply below_alloc | apply pw_below_drewN | apply below_drew1 | refine below_set ?_ GE134.out) | exact HB.out)⟩
                          · rw [if_neg c54] at H
                            exact absurd H (by simp)
                        · rw [if_neg c53] at H
                          exact absurd H (by simp)
    · rw [if_neg c7] at H
      exact absurd H (by simp)
  · rw [if_neg c6] at H
    exact absurd H (by simp)

/-- THE ONE PURE STATEMENT of earshotlaw12_DctFlat: yours. -/
def earshotlaw12_DctFlat.Pure : Prop := ∀ (a0 : Int) (l1 : List Int) (a2_0 : Int) (a2_1 : Int), (Lit.int .i64 a0).wf = true → l1.length ≤ maxLen → l1.length * 8 ≤ 140737488351232 → (∀ x ∈ l1, (Lit.int .i64 x).wf = true) → (Lit.int .i64 a2_0).wf = true → (Lit.int .i64 a2_1).wf = true → ∃ k, earshotlaw12_DctFlat.f k a0 l1 a2_0 a2_1 = some true
theorem earshotlaw12_DctFlat.walk (P : earshotlaw12_DctFlat.Pure) (a0 : Int) (a1 : Option Addr) (len1 cap1 : Nat) (z1 : List Int) (a2_0 : Int) (a2_1 : Int) (w : World) (w0 : (Lit.int .i64 a0).wf = true) (w1 : (a1 = none ∧ len1 = 0 ∧ cap1 = 0 ∧ z1 = []) ∨ ∃ x, a1 = some x ∧ len1 ≤ cap1 ∧ cap1 ≤ maxLen ∧ z1.length = cap1 ∧ (∀ i, i < z1.length → w.cell? (x.add i) = some (.int .i64 (z1.getD i 0))) ∧ ∀ n ∈ z1, (Lit.int .i64 n).wf = true) (y1 : len1 * 8 ≤ 140737488351232) (w2_0 : (Lit.int .i64 a2_0).wf = true) (w2_1 : (Lit.int .i64 a2_1).wf = true) (hG : GlobA w) :
    Calls Tryd.prog 6 #[.int .i64 a0, .slice a1 len1 cap1, .agg #[.int .i64 a2_0, .int .i64 a2_1]] w fun e w' => e = .returned (.bool true) ∧ Below w.heap.size w w' := by
  obtain ⟨l1, rfl, hr1, hm1, hw1, hc1⟩ := ReadsInt.ofRowC w1
  obtain ⟨k, h⟩ := P a0 l1 a2_0 a2_1 w0 hm1 y1 hw1 w2_0 w2_1
  refine (earshotlaw12_DctFlat.calls k a0 _ _ l1 a2_0 a2_1 true w hG (Kd.C_of_reads (d := (0 : Int)) (h1 := fun _ => rfl) hr1) hc1 h).mono ?_
  rintro e w' ⟨rfl, hd⟩
  exact ⟨rfl, hd⟩

end Go.Proofs.YtmhacdnnnebpdaaDoor.PDctFlat
