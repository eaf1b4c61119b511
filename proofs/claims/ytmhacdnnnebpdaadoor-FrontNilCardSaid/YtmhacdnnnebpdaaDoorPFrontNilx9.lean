-- Written by a program of this work (wip/tools) for this claim; Lean checks it.
import Derived.Test.YtmhacdnnnebpdaaDoorPFrontNilx0
import Derived.Test.YtmhacdnnnebpdaaDoorPFrontNilx1
import Derived.Test.YtmhacdnnnebpdaaDoorPFrontNilx2
import Derived.Test.YtmhacdnnnebpdaaDoorPFrontNilx8
namespace Go.Proofs.YtmhacdnnnebpdaaDoor.PFrontNil
open Go.RowKit Go.Proofs.YtmhacdnnnebpdaaDoorW.PrintWords Go.Proofs.YtmhacdnnnebpdaaDoorW.PrintLast Go.Proofs.YtmhacdnnnebpdaaDoorW.PrintMore
attribute [local go_sem] max2_int min2_int max_two min_two max_three min_three max_four min_four   -- for this text's walks alone
set_option linter.unusedVariables false
set_option linter.unusedSimpArgs false

/-! ### earshotref13_Right: function 26 -/
def earshotref13_Right.f (a0_0 : Int) (a0_1 : Int) (a0_2 : Int) (a0_3 : Int) (a0_4 : Int) : Option (Bool) := (earshotref12_May.f a0_2).bind fun t121 => (if a0_0 = 16 then (if a0_1 ≥ 1 then (if a0_1 ≤ a0_0 then (if t121 = true then (if a0_3 ≥ 1 then (if a0_3 ≤ a0_2 then (if a0_4 ≥ 0 then (some (decide (a0_4 ≤ 32767))) else (some false)) else (some false)) else (some false)) else (some false)) else (some false)) else (some false)) else (if a0_0 = 32 then (if a0_1 ≥ 1 then (if a0_1 ≤ a0_0 then (if t121 = true then (if a0_3 ≥ 1 then (if a0_3 ≤ a0_2 then (if a0_4 ≥ 0 then (some (decide (a0_4 ≤ 32767))) else (some false)) else (some false)) else (some false)) else (some false)) else (some false)) else (some false)) else (if a0_0 = 64 then (if a0_1 ≥ 1 then (if a0_1 ≤ a0_0 then (if t121 = true then (if a0_3 ≥ 1 then (if a0_3 ≤ a0_2 then (if a0_4 ≥ 0 then (some (decide (a0_4 ≤ 32767))) else (some false)) else (some false)) else (some false)) else (some false)) else (some false)) else (some false)) else (some false))))
set_option maxHeartbeats 8000000 in
set_option maxRecDepth 100000 in
theorem earshotref13_Right.calls (a0_0 : Int) (a0_1 : Int) (a0_2 : Int) (a0_3 : Int) (a0_4 : Int) (r : Bool) (w : World) (h : earshotref13_Right.f a0_0 a0_1 a0_2 a0_3 a0_4 = some r) :
    Calls Tryd.prog 26 #[.agg #[.int .i64 a0_0, .int .i64 a0_1, .int .i64 a0_2, .int .i64 a0_3, .int .i64 a0_4]] w fun e w' => e = .returned (.bool r) ∧ Below w.heap.size w w' := by
  have hu39 := Tryd.underlying39
  have HB := Aside0.mk (Below.refl w.heap.size w)
  have H : ((earshotref12_May.f a0_2).bind fun t121 => (if a0_0 = 16 then (if a0_1 ≥ 1 then (if a0_1 ≤ a0_0 then (if t121 = true then (if a0_3 ≥ 1 then (if a0_3 ≤ a0_2 then (if a0_4 ≥ 0 then (some (decide (a0_4 ≤ 32767))) else (some false)) else (some false)) else (some false)) else (some false)) else (some false)) else (some false)) else (if a0_0 = 32 then (if a0_1 ≥ 1 then (if a0_1 ≤ a0_0 then (if t121 = true then (if a0_3 ≥ 1 then (if a0_3 ≤ a0_2 then (if a0_4 ≥ 0 then (some (decide (a0_4 ≤ 32767))) else (some false)) else (some false)) else (some false)) else (some false)) else (some false)) else (some false)) else (if a0_0 = 64 then (if a0_1 ≥ 1 then (if a0_1 ≤ a0_0 then (if t121 = true then (if a0_3 ≥ 1 then (if a0_3 ≤ a0_2 then (if a0_4 ≥ 0 then (some (decide (a0_4 ≤ 32767))) else (some false)) else (some false)) else (some false)) else (some false)) else (some false)) else (some false)) else (some false))))) = some r := h
  clear h
  replace H := Option.bind_eq_some_iff.mp H
  obtain ⟨t121, A20, H⟩ := H
  replace H : (if a0_0 = 16 then (if a0_1 ≥ 1 then (if a0_1 ≤ a0_0 then (if t121 = true then (if a0_3 ≥ 1 then (if a0_3 ≤ a0_2 then (if a0_4 ≥ 0 then (some (decide (a0_4 ≤ 32767))) else (some false)) else (some false)) else (some false)) else (some false)) else (some false)) else (some false)) else (if a0_0 = 32 then (if a0_1 ≥ 1 then (if a0_1 ≤ a0_0 then (if t121 = true then (if a0_3 ≥ 1 then (if a0_3 ≤ a0_2 then (if a0_4 ≥ 0 then (some (decide (a0_4 ≤ 32767))) else (some false)) else (some false)) else (some false)) else (some false)) else (some false)) else (some false)) else (if a0_0 = 64 then (if a0_1 ≥ 1 then (if a0_1 ≤ a0_0 then (if t121 = true then (if a0_3 ≥ 1 then (if a0_3 ≤ a0_2 then (if a0_4 ≥ 0 then (some (decide (a0_4 ≤ 32767))) else (some false)) else (some false)) else (some false)) else (some false)) else (some false)) else (some false)) else (some false)))) = some r := H
  have A2 := Aside0.mk A20
  clear A20
  by_cases c3 : a0_0 = 16
  · rw [if_pos c3] at H
    have c3b0 : (a0_0 == 16) = true := beq_iff_eq.mpr c3
    have c3b1 : (a0_0 != 16) = false := bne_eq_false_iff_eq.mpr c3
    clear c3
    by_cases c4 : a0_1 ≥ 1
    · rw [if_pos c4] at H
      have c4b0 : decide (1 ≤ a0_1) = true := decide_eq_true c4
      clear c4
      by_cases c5 : a0_1 ≤ a0_0
      · rw [if_pos c5] at H
        have c5b0 : decide (a0_1 ≤ a0_0) = true := decide_eq_true c5
        clear c5
        by_cases c6 : t121 = true
        · subst c6
          have H1 : (if a0_3 ≥ 1 then (if a0_3 ≤ a0_2 then (if a0_4 ≥ 0 then (some (decide (a0_4 ≤ 32767))) else (some false)) else (some false)) else (some false)) = some r := by rw [if_pos rfl] at H; exact H
          clear H
          have H := H1
          clear H1
          by_cases c7 : a0_3 ≥ 1
          · rw [if_pos c7] at H
            have c7b0 : decide (1 ≤ a0_3) = true := decide_eq_true c7
            clear c7
            by_cases c8 : a0_3 ≤ a0_2
            · rw [if_pos c8] at H
              have c8b0 : decide (a0_3 ≤ a0_2) = true := decide_eq_true c8
              clear c8
              by_cases c9 : a0_4 ≥ 0
              · rw [if_pos c9] at H
                have c9b0 : decide (0 ≤ a0_4) = true := decide_eq_true c9
                clear c9
                obtain rfl := Option.some.inj H
                go_enter Tryd.func26, Tryd.ntmps26
                go_wp2_with (first | ((with_reducible refine gate_dst (N := 1) rfl ?_); refine box_event ?hg (N := 1) ?hd (cs := #[.int .i64 a0_0, .int .i64 a0_1, .int .i64 a0_2, .int .i64 a0_3, .int .i64 a0_4]) (t := 39) ?hr ?_; (case hd => rfl); (case hg => first | rfl | exact wanted_on rfl rfl rfl (by first | assumption | rfl | (simp [*]; done))); (case hr => first | (go_simp; done) | (go_simp; rfl)); intro gb120 hg w10 hbox hb; have n0_ := Aside0.mk (below_step (by repeat (first | (with_reducible first | exact HB.out | apply below_alloc | apply pw_below_drewN | apply below_drew1) | exact HB.out)) hb); have n1_ := Aside0.mk (hbox); have n2_ := Aside0.mk ((by rw [hg]; exact (below_size (by repeat (first | (with_reducible first | exact HB.out | apply below_alloc | apply pw_below_drewN | apply below_drew1) | exact HB.out))) : w.heap.size ≤ gb120)); have n3_ := Aside0.mk ((by rw [hg]; exact (below_size (by repeat (first | (with_reducible first | exact HB.out | apply below_alloc | apply pw_below_drewN | apply below_drew1) | exact HB.out))) : w.heap.size ≤ gb120)); clear HB; have HB := n0_; have BK120 := n1_; have GW120 := n2_; have GE120 := n3_; clear n0_ n1_ n2_ n3_; clear hb hbox hg; have hcz11_0 : w10.cell? ⟨gb120, 0, none⟩ = some (.int .i64 a0_0) := (blk_cell BK120.out 0).trans rfl; have hcz11_1 : w10.cell? ⟨gb120, 1, none⟩ = some (.int .i64 a0_1) := (blk_cell BK120.out 1).trans rfl; have hcz11_2 : w10.cell? ⟨gb120, 2, none⟩ = some (.int .i64 a0_2) := (blk_cell BK120.out 2).trans rfl; have hcz11_3 : w10.cell? ⟨gb120, 3, none⟩ = some (.int .i64 a0_3) := (blk_cell BK120.out 3).trans rfl; have hcz11_4 : w10.cell? ⟨gb120, 4, none⟩ = some (.int .i64 a0_4) := (blk_cell BK120.out 4).trans rfl; have hfz11_0 := blk_frozen BK120.out 0; have hfz11_1 := blk_frozen BK120.out 1; have hfz11_2 := blk_frozen BK120.out 2; have hfz11_3 := blk_frozen BK120.out 3; have hfz11_4 := blk_frozen BK120.out 4) | ((with_reducible refine gate_callee (f := 61) rfl ?_); refine goesL_ (some 6) rfl rfl Tryd.func61 (by kernel_rfl) rfl #[.int .i64 a0_2] rfl (by (try simp only [List.map_toArray, List.map_cons, List.map_nil]); first | done | rfl | (simp only [List.length_drop, List.length_take]; rfl)) ?_; (with_reducible refine (earshotref12_May.calls a0_2 true _ A2.out).mono ?_); rintro e w' ⟨rfl, ⟨nd, rfl⟩⟩; refine ⟨_, rfl, ?_⟩))
                go_ret
                exact ⟨by first | rfl | (simp [errW_none, errW_some] <;> rfl) | (simp [*, errW_none, errW_some] <;> rfl), by repeat (first | (with_reducible first | exact HB.out | apply below_alloc | apply pw_below_drewN | apply below_drew1 | refine below_set ?_ GE120.out) | exact HB.out)⟩
              · rw [if_neg c9] at H
                have c9b0 : decide (0 ≤ a0_4) = false := decide_eq_false c9
                clear c9
                obtain rfl := Option.some.inj H
                go_enter Tryd.func26, Tryd.ntmps26
                go_wp2_with (first | ((with_reducible refine gate_dst (N := 1) rfl ?_); refine box_event ?hg (N := 1) ?hd (cs := #[.int .i64 a0_0, .int .i64 a0_1, .int .i64 a0_2, .int .i64 a0_3, .int .i64 a0_4]) (t := 39) ?hr ?_; (case hd => rfl); (case hg => first | rfl | exact wanted_on rfl rfl rfl (by first | assumption | rfl | (simp [*]; done))); (case hr => first | (go_simp; done) | (go_simp; rfl)); intro gb120 hg w12 hbox hb; have n0_ := Aside0.mk (below_step (by repeat (first | (with_reducible first | exact HB.out | apply below_alloc | apply pw_below_drewN | apply below_drew1) | exact HB.out)) hb); have n1_ := Aside0.mk (hbox); have n2_ := Aside0.mk ((by rw [hg]; exact (below_size (by repeat (first | (with_reducible first | exact HB.out | apply below_alloc | apply pw_below_drewN | apply below_drew1) | exact HB.out))) : w.heap.size ≤ gb120)); have n3_ := Aside0.mk ((by rw [hg]; exact (below_size (by repeat (first | (with_reducible first | exact HB.out | apply below_alloc | apply pw_below_drewN | apply below_drew1) | exact HB.out))) : w.heap.size ≤ gb120)); clear HB; have HB := n0_; have BK120 := n1_; have GW120 := n2_; have GE120 := n3_; clear n0_ n1_ n2_ n3_; clear hb hbox hg; have hcz13_0 : w12.cell? ⟨gb120, 0, none⟩ = some (.int .i64 a0_0) := (blk_cell BK120.out 0).trans rfl; have hcz13_1 : w12.cell? ⟨gb120, 1, none⟩ = some (.int .i64 a0_1) := (blk_cell BK120.out 1).trans rfl; have hcz13_2 : w12.cell? ⟨gb120, 2, none⟩ = some (.int .i64 a0_2) := (blk_cell BK120.out 2).trans rfl; have hcz13_3 : w12.cell? ⟨gb120, 3, none⟩ = some (.int .i64 a0_3) := (blk_cell BK120.out 3).trans rfl; have hcz13_4 : w12.cell? ⟨gb120, 4, none⟩ = some (.int .i64 a0_4) := (blk_cell BK120.out 4).trans rfl; have hfz13_0 := blk_frozen BK120.out 0; have hfz13_1 := blk_frozen BK120.out 1; have hfz13_2 := blk_frozen BK120.out 2; have hfz13_3 := blk_frozen BK120.out 3; have hfz13_4 := blk_frozen BK120.out 4) | ((with_reducible refine gate_callee (f := 61) rfl ?_); refine goesL_ (some 6) rfl rfl Tryd.func61 (by kernel_rfl) rfl #[.int .i64 a0_2] rfl (by (try simp only [List.map_toArray, List.map_cons, List.map_nil]); first | done | rfl | (simp only [List.length_drop, List.length_take]; rfl)) ?_; (with_reducible refine (earshotref12_May.calls a0_2 true _ A2.out).mono ?_); rintro e w' ⟨rfl, ⟨nd, rfl⟩⟩; refine ⟨_, rfl, ?_⟩))
                go_ret
                exact ⟨by first | rfl | (simp [errW_none, errW_some] <;> rfl) | (simp [*, errW_none, errW_some] <;> rfl), by repeat (first | (with_reducible first | exact HB.out | apply below_alloc | apply pw_below_drewN | apply below_drew1 | refine below_set ?_ GE120.out) | exact HB.out)⟩
            · rw [if_neg c8] at H
              have c8b0 : decide (a0_3 ≤ a0_2) = false := decide_eq_false c8
              clear c8
              obtain rfl := Option.some.inj H
              go_enter Tryd.func26, Tryd.ntmps26
              go_wp2_with (first | ((with_reducible refine gate_dst (N := 1) rfl ?_); refine box_event ?hg (N := 1) ?hd (cs := #[.int .i64 a0_0, .int .i64 a0_1, .int .i64 a0_2, .int .i64 a0_3, .int .i64 a0_4]) (t := 39) ?hr ?_; (case hd => rfl); (case hg => first | rfl | exact wanted_on rfl rfl rfl (by first | assumption | rfl | (simp [*]; done))); (case hr => first | (go_simp; done) | (go_simp; rfl)); intro gb120 hg w14 hbox hb; have n0_ := Aside0.mk (below_step (by repeat (first | (with_reducible first | exact HB.out | apply below_alloc | apply pw_below_drewN | apply below_drew1) | exact HB.out)) hb); have n1_ := Aside0.mk (hbox); have n2_ := Aside0.mk ((by rw [hg]; exact (below_size (by repeat (first | (with_reducible first | exact HB.out | apply below_alloc | apply pw_below_drewN | apply below_drew1) | exact HB.out))) : w.heap.size ≤ gb120)); have n3_ := Aside0.mk ((by rw [hg]; exact (below_size (by repeat (first | (with_reducible first | exact HB.out | apply below_alloc | apply pw_below_drewN | apply below_drew1) | exact HB.out))) : w.heap.size ≤ gb120)); clear HB; have HB := n0_; have BK120 := n1_; have GW120 := n2_; have GE120 := n3_; clear n0_ n1_ n2_ n3_; clear hb hbox hg; have hcz15_0 : w14.cell? ⟨gb120, 0, none⟩ = some (.int .i64 a0_0) := (blk_cell BK120.out 0).trans rfl; have hcz15_1 : w14.cell? ⟨gb120, 1, none⟩ = some (.int .i64 a0_1) := (blk_cell BK120.out 1).trans rfl; have hcz15_2 : w14.cell? ⟨gb120, 2, none⟩ = some (.int .i64 a0_2) := (blk_cell BK120.out 2).trans rfl; have hcz15_3 : w14.cell? ⟨gb120, 3, none⟩ = some (.int .i64 a0_3) := (blk_cell BK120.out 3).trans rfl; have hcz15_4 : w14.cell? ⟨gb120, 4, none⟩ = some (.int .i64 a0_4) := (blk_cell BK120.out 4).trans rfl; have hfz15_0 := blk_frozen BK120.out 0; have hfz15_1 := blk_frozen BK120.out 1; have hfz15_2 := blk_frozen BK120.out 2; have hfz15_3 := blk_frozen BK120.out 3; have hfz15_4 := blk_frozen BK120.out 4) | ((with_reducible refine gate_callee (f := 61) rfl ?_); refine goesL_ (some 6) rfl rfl Tryd.func61 (by kernel_rfl) rfl #[.int .i64 a0_2] rfl (by (try simp only [List.map_toArray, List.map_cons, List.map_nil]); first | done | rfl | (simp only [List.length_drop, List.length_take]; rfl)) ?_; (with_reducible refine (earshotref12_May.calls a0_2 true _ A2.out).mono ?_); rintro e w' ⟨rfl, ⟨nd, rfl⟩⟩; refine ⟨_, rfl, ?_⟩))
              go_ret
              exact ⟨by first | rfl | (simp [errW_none, errW_some] <;> rfl) | (simp [*, errW_none, errW_some] <;> rfl), by repeat (first | (with_reducible first | exact HB.out | apply below_alloc | apply pw_below_drewN | apply below_drew1 | refine below_set ?_ GE120.out) | exact HB.out)⟩
          · rw [if_neg c7] at H
            have c7b0 : decide (1 ≤ a0_3) = false := decide_eq_false c7
            clear c7
            obtain rfl := Option.some.inj H
            go_enter Tryd.func26, Tryd.ntmps26
            go_wp2_with (first | ((with_reducible refine gate_dst (N := 1) rfl ?_); refine box_event ?hg (N := 1) ?hd (cs := #[.int .i64 a0_0, .int .i64 a0_1, .int .i64 a0_2, .int .i64 a0_3, .int .i64 a0_4]) (t := 39) ?hr ?_; (case hd => rfl); (case hg => first | rfl | exact wanted_on rfl rfl rfl (by first | assumption | rfl | (simp [*]; done))); (case hr => first | (go_simp; done) | (go_simp; rfl)); intro gb120 hg w16 hbox hb; have n0_ := Aside0.mk (below_step (by repeat (first | (with_reducible first | exact HB.out | apply below_alloc | apply pw_below_drewN | apply below_drew1) | exact HB.out)) hb); have n1_ := Aside0.mk (hbox); have n2_ := Aside0.mk ((by rw [hg]; exact (below_size (by repeat (first | (with_reducible first | exact HB.out | apply below_alloc | apply pw_below_drewN | apply below_drew1) | exact HB.out))) : w.heap.size ≤ gb120)); have n3_ := Aside0.mk ((by rw [hg]; exact (below_size (by repeat (first | (with_reducible first | exact HB.out | apply below_alloc | apply pw_below_drewN | apply below_drew1) | exact HB.out))) : w.heap.size ≤ gb120)); clear HB; have HB := n0_; have BK120 := n1_; have GW120 := n2_; have GE120 := n3_; clear n0_ n1_ n2_ n3_; clear hb hbox hg; have hcz17_0 : w16.cell? ⟨gb120, 0, none⟩ = some (.int .i64 a0_0) := (blk_cell BK120.out 0).trans rfl; have hcz17_1 : w16.cell? ⟨gb120, 1, none⟩ = some (.int .i64 a0_1) := (blk_cell BK120.out 1).trans rfl; have hcz17_2 : w16.cell? ⟨gb120, 2, none⟩ = some (.int .i64 a0_2) := (blk_cell BK120.out 2).trans rfl; have hcz17_3 : w16.cell? ⟨gb120, 3, none⟩ = some (.int .i64 a0_3) := (blk_cell BK120.out 3).trans rfl; have hcz17_4 : w16.cell? ⟨gb120, 4, none⟩ = some (.int .i64 a0_4) := (blk_cell BK120.out 4).trans rfl; have hfz17_0 := blk_frozen BK120.out 0; have hfz17_1 := blk_frozen BK120.out 1; have hfz17_2 := blk_frozen BK120.out 2; have hfz17_3 := blk_frozen BK120.out 3; have hfz17_4 := blk_frozen BK120.out 4) | ((with_reducible refine gate_callee (f := 61) rfl ?_); refine goesL_ (some 6) rfl rfl Tryd.func61 (by kernel_rfl) rfl #[.int .i64 a0_2] rfl (by (try simp only [List.map_toArray, List.map_cons, List.map_nil]); first | done | rfl | (simp only [List.length_drop, List.length_take]; rfl)) ?_; (with_reducible refine (earshotref12_May.calls a0_2 true _ A2.out).mono ?_); rintro e w' ⟨rfl, ⟨nd, rfl⟩⟩; refine ⟨_, rfl, ?_⟩))
            go_ret
            exact ⟨by first | rfl | (simp [errW_none, errW_some] <;> rfl) | (simp [*, errW_none, errW_some] <;> rfl), by repeat (first | (with_reducible first | exact HB.out | apply below_alloc | apply pw_below_drewN | apply below_drew1 | refine below_set ?_ GE120.out) | exact HB.out)⟩
        · replace c6 := Bool.eq_false_iff.mpr c6
          subst c6
          have H1 : (some false) = some r := by rw [if_neg (show ¬ (false = true) by decide)] at H; exact H
          clear H
          have H := H1
          clear H1
          obtain rfl := Option.some.inj H
          go_enter Tryd.func26, Tryd.ntmps26
          go_wp2_with (first | ((with_reducible refine gate_dst (N := 1) rfl ?_); refine box_event ?hg (N := 1) ?hd (cs := #[.int .i64 a0_0, .int .i64 a0_1, .int .i64 a0_2, .int .i64 a0_3, .int .i64 a0_4]) (t := 39) ?hr ?_; (case hd => rfl); (case hg => first | rfl | exact wanted_on rfl rfl rfl (by first | assumption | rfl | (simp [*]; done))); (case hr => first | (go_simp; done) | (go_simp; rfl)); intro gb120 hg w18 hbox hb; have n0_ := Aside0.mk (below_step (by repeat (first | (with_reducible first | exact HB.out | apply below_alloc | apply pw_below_drewN | apply below_drew1) | exact HB.out)) hb); have n1_ := Aside0.mk (hbox); have n2_ := Aside0.mk ((by rw [hg]; exact (below_size (by repeat (first | (with_reducible first | exact HB.out | apply below_alloc | apply pw_below_drewN | apply below_drew1) | exact HB.out))) : w.heap.size ≤ gb120)); have n3_ := Aside0.mk ((by rw [hg]; exact (below_size (by repeat (first | (with_reducible first | exact HB.out | apply below_alloc | apply pw_below_drewN | apply below_drew1) | exact HB.out))) : w.heap.size ≤ gb120)); clear HB; have HB := n0_; have BK120 := n1_; have GW120 := n2_; have GE120 := n3_; clear n0_ n1_ n2_ n3_; clear hb hbox hg; have hcz19_0 : w18.cell? ⟨gb120, 0, none⟩ = some (.int .i64 a0_0) := (blk_cell BK120.out 0).trans rfl; have hcz19_1 : w18.cell? ⟨gb120, 1, none⟩ = some (.int .i64 a0_1) := (blk_cell BK120.out 1).trans rfl; have hcz19_2 : w18.cell? ⟨gb120, 2, none⟩ = some (.int .i64 a0_2) := (blk_cell BK120.out 2).trans rfl; have hcz19_3 : w18.cell? ⟨gb120, 3, none⟩ = some (.int .i64 a0_3) := (blk_cell BK120.out 3).trans rfl; have hcz19_4 : w18.cell? ⟨gb120, 4, none⟩ = some (.int .i64 a0_4) := (blk_cell BK120.out 4).trans rfl; have hfz19_0 := blk_frozen BK120.out 0; have hfz19_1 := blk_frozen BK120.out 1; have hfz19_2 := blk_frozen BK120.out 2; have hfz19_3 := blk_frozen BK120.out 3; have hfz19_4 := blk_frozen BK120.out 4) | ((with_reducible refine gate_callee (f := 61) rfl ?_); refine goesL_ (some 6) rfl rfl Tryd.func61 (by kernel_rfl) rfl #[.int .i64 a0_2] rfl (by (try simp only [List.map_toArray, List.map_cons, List.map_nil]); first | done | rfl | (simp only [List.length_drop, List.length_take]; rfl)) ?_; (with_reducible refine (earshotref12_May.calls a0_2 false _ A2.out).mono ?_); rintro e w' ⟨rfl, ⟨nd, rfl⟩⟩; refine ⟨_, rfl, ?_⟩))
          go_ret
          exact ⟨by first | rfl | (simp [errW_none, errW_some] <;> rfl) | (simp [*, errW_none, errW_some] <;> rfl), by repeat (first | (with_reducible first | exact HB.out | apply below_alloc | apply pw_below_drewN | apply below_drew1 | refine below_set ?_ GE120.out) | exact HB.out)⟩
      · rw [if_neg c5] at H
        have c5b0 : decide (a0_1 ≤ a0_0) = false := decide_eq_false c5
        clear c5
        obtain rfl := Option.some.inj H
        go_enter Tryd.func26, Tryd.ntmps26
        go_wp2_with (first | ((with_reducible refine gate_dst (N := 1) rfl ?_); refine box_event ?hg (N := 1) ?hd (cs := #[.int .i64 a0_0, .int .i64 a0_1, .int .i64 a0_2, .int .i64 a0_3, .int .i64 a0_4]) (t := 39) ?hr ?_; (case hd => rfl); (case hg => first | rfl | exact wanted_on rfl rfl rfl (by first | assumption | rfl | (simp [*]; done))); (case hr => first | (go_simp; done) | (go_simp; rfl)); intro gb120 hg w20 hbox hb; have n0_ := Aside0.mk (below_step (by repeat (first | (with_reducible first | exact HB.out | apply below_alloc | apply pw_below_drewN | apply below_drew1) | exact HB.out)) hb); have n1_ := Aside0.mk (hbox); have n2_ := Aside0.mk ((by rw [hg]; exact (below_size (by repeat (first | (with_reducible first | exact HB.out | apply below_alloc | apply pw_below_drewN | apply below_drew1) | exact HB.out))) : w.heap.size ≤ gb120)); have n3_ := Aside0.mk ((by rw [hg]; exact (below_size (by repeat (first | (with_reducible first | exact HB.out | apply below_alloc | apply pw_below_drewN | apply below_drew1) | exact HB.out))) : w.heap.size ≤ gb120)); clear HB; have HB := n0_; have BK120 := n1_; have GW120 := n2_; have GE120 := n3_; clear n0_ n1_ n2_ n3_; clear hb hbox hg; have hcz21_0 : w20.cell? ⟨gb120, 0, none⟩ = some (.int .i64 a0_0) := (blk_cell BK120.out 0).trans rfl; have hcz21_1 : w20.cell? ⟨gb120, 1, none⟩ = some (.int .i64 a0_1) := (blk_cell BK120.out 1).trans rfl; have hcz21_2 : w20.cell? ⟨gb120, 2, none⟩ = some (.int .i64 a0_2) := (blk_cell BK120.out 2).trans rfl; have hcz21_3 : w20.cell? ⟨gb120, 3, none⟩ = some (.int .i64 a0_3) := (blk_cell BK120.out 3).trans rfl; have hcz21_4 : w20.cell? ⟨gb120, 4, none⟩ = some (.int .i64 a0_4) := (blk_cell BK120.out 4).trans rfl; have hfz21_0 := blk_frozen BK120.out 0; have hfz21_1 := blk_frozen BK120.out 1; have hfz21_2 := blk_frozen BK120.out 2; have hfz21_3 := blk_frozen BK120.out 3; have hfz21_4 := blk_frozen BK120.out 4) | ((with_reducible refine gate_callee (f := 61) rfl ?_); refine goesL_ (some 6) rfl rfl Tryd.func61 (by kernel_rfl) rfl #[.int .i64 a0_2] rfl (by (try simp only [List.map_toArray, List.map_cons, List.map_nil]); first | done | rfl | (simp only [List.length_drop, List.length_take]; rfl)) ?_; (with_reducible refine (earshotref12_May.calls a0_2 t121 _ A2.out).mono ?_); rintro e w' ⟨rfl, ⟨nd, rfl⟩⟩; refine ⟨_, rfl, ?_⟩))
        go_ret
        exact ⟨by first | rfl | (simp [errW_none, errW_some] <;> rfl) | (simp [*, errW_none, errW_some] <;> rfl), by repeat (first | (with_reducible first | exact HB.out | apply below_alloc | apply pw_below_drewN | apply below_drew1 | refine below_set ?_ GE120.out) | exact HB.out)⟩
    · rw [if_neg c4] at H
      have c4b0 : decide (1 ≤ a0_1) = false := decide_eq_false c4
      clear c4
      obtain rfl := Option.some.inj H
      go_enter Tryd.func26, Tryd.ntmps26
      go_wp2_with (first | ((with_reducible refine gate_dst (N := 1) rfl ?_); refine box_event ?hg (N := 1) ?hd (cs := #[.int .i64 a0_0, .int .i64 a0_1, .int .i64 a0_2, .int .i64 a0_3, .int .i64 a0_4]) (t := 39) ?hr ?_; (case hd => rfl); (case hg => first | rfl | exact wanted_on rfl rfl rfl (by first | assumption | rfl | (simp [*]; done))); (case hr => first | (go_simp; done) | (go_simp; rfl)); intro gb120 hg w22 hbox hb; have n0_ := Aside0.mk (below_step (by repeat (first | (with_reducible first | exact HB.out | apply below_alloc | apply pw_below_drewN | apply below_drew1) | exact HB.out)) hb); have n1_ := Aside0.mk (hbox); have n2_ := Aside0.mk ((by rw [hg]; exact (below_size (by repeat (first | (with_reducible first | exact HB.out | apply below_alloc | apply pw_below_drewN | apply below_drew1) | exact HB.out))) : w.heap.size ≤ gb120)); have n3_ := Aside0.mk ((by rw [hg]; exact (below_size (by repeat (first | (with_reducible first | exact HB.out | apply below_alloc | apply pw_below_drewN | apply below_drew1) | exact HB.out))) : w.heap.size ≤ gb120)); clear HB; have HB := n0_; have BK120 := n1_; have GW120 := n2_; have GE120 := n3_; clear n0_ n1_ n2_ n3_; clear hb hbox hg; have hcz23_0 : w22.cell? ⟨gb120, 0, none⟩ = some (.int .i64 a0_0) := (blk_cell BK120.out 0).trans rfl; have hcz23_1 : w22.cell? ⟨gb120, 1, none⟩ = some (.int .i64 a0_1) := (blk_cell BK120.out 1).trans rfl; have hcz23_2 : w22.cell? ⟨gb120, 2, none⟩ = some (.int .i64 a0_2) := (blk_cell BK120.out 2).trans rfl; have hcz23_3 : w22.cell? ⟨gb120, 3, none⟩ = some (.int .i64 a0_3) := (blk_cell BK120.out 3).trans rfl; have hcz23_4 : w22.cell? ⟨gb120, 4, none⟩ = some (.int .i64 a0_4) := (blk_cell BK120.out 4).trans rfl; have hfz23_0 := blk_frozen BK120.out 0; have hfz23_1 := blk_frozen BK120.out 1; have hfz23_2 := blk_frozen BK120.out 2; have hfz23_3 := blk_frozen BK120.out 3; have hfz23_4 := blk_frozen BK120.out 4) | ((with_reducible refine gate_callee (f := 61) rfl ?_); refine goesL_ (some 6) rfl rfl Tryd.func61 (by kernel_rfl) rfl #[.int .i64 a0_2] rfl (by (try simp only [List.map_toArray, List.map_cons, List.map_nil]); first | done | rfl | (simp only [List.length_drop, List.length_take]; rfl)) ?_; (with_reducible refine (earshotref12_May.calls a0_2 t121 _ A2.out).mono ?_); rintro e w' ⟨rfl, ⟨nd, rfl⟩⟩; refine ⟨_, rfl, ?_⟩))
      go_ret
      exact ⟨by first | rfl | (simp [errW_none, errW_some] <;> rfl) | (simp [*, errW_none, errW_some] <;> rfl), by repeat (first | (with_reducible first | exact HB.out | apply below_alloc | apply pw_below_drewN | apply below_drew1 | refine below_set ?_ GE120.out) | exact HB.out)⟩
  · rw [if_neg c3] at H
    have c3b0 : (a0_0 == 16) = false := beq_eq_false_iff_ne.mpr c3
    have c3b1 : (a0_0 != 16) = true := bne_iff_ne.mpr c3
    by_cases c24 : a0_0 = 32
    · rw [if_pos c24] at H
      have c24b0 : (a0_0 == 32) = true := beq_iff_eq.mpr c24
      have c24b1 : (a0_0 != 32) = false := bne_eq_false_iff_eq.mpr c24
      clear c24
      by_cases c25 : a0_1 ≥ 1
      · rw [if_pos c25] at H
        have c25b0 : decide (1 ≤ a0_1) = true := decide_eq_true c25
        clear c25
        by_cases c26 : a0_1 ≤ a0_0
        · rw [if_pos c26] at H
          have c26b0 : decide (a0_1 ≤ a0_0) = true := decide_eq_true c26
          clear c26
          by_cases c27 : t121 = true
          · subst c27
            have H1 : (if a0_3 ≥ 1 then (if a0_3 ≤ a0_2 then (if a0_4 ≥ 0 then (some (decide (a0_4 ≤ 32767))) else (some false)) else (some false)) else (some false)) = some r := by rw [if_pos rfl] at H; exact H
            clear H
            have H := H1
            clear H1
            by_cases c28 : a0_3 ≥ 1
            · rw [if_pos c28] at H
              have c28b0 : decide (1 ≤ a0_3) = true := decide_eq_true c28
              clear c28
              by_cases c29 : a0_3 ≤ a0_2
              · rw [if_pos c29] at H
                have c29b0 : decide (a0_3 ≤ a0_2) = true := decide_eq_true c29
                clear c29
                by_cases c30 : a0_4 ≥ 0
                · rw [if_pos c30] at H
                  have c30b0 : decide (0 ≤ a0_4) = true := decide_eq_true c30
                  clear c30
                  obtain rfl := Option.some.inj H
                  go_enter Tryd.func26, Tryd.ntmps26
                  go_wp2_with (first | ((with_reducible refine gate_dst (N := 1) rfl ?_); refine box_event ?hg (N := 1) ?hd (cs := #[.int .i64 a0_0, .int .i64 a0_1, .int .i64 a0_2, .int .i64 a0_3, .int .i64 a0_4]) (t := 39) ?hr ?_; (case hd => rfl); (case hg => first | rfl | exact wanted_on rfl rfl rfl (by first | assumption | rfl | (simp [*]; done))); (case hr => first | (go_simp; done) | (go_simp; rfl)); intro gb120 hg w31 hbox hb; have n0_ := Aside0.mk (below_step (by repeat (first | (with_reducible first | exact HB.out | apply below_alloc | apply pw_below_drewN | apply below_drew1) | exact HB.out)) hb); have n1_ := Aside0.mk (hbox); have n2_ := Aside0.mk ((by rw [hg]; exact (below_size (by repeat (first | (with_reducible first | exact HB.out | apply below_alloc | apply pw_below_drewN | apply below_drew1) | exact HB.out))) : w.heap.size ≤ gb120)); have n3_ := Aside0.mk ((by rw [hg]; exact (below_size (by repeat (first | (with_reducible first | exact HB.out | apply below_alloc | apply pw_below_drewN | apply below_drew1) | exact HB.out))) : w.heap.size ≤ gb120)); clear HB; have HB := n0_; have BK120 := n1_; have GW120 := n2_; have GE120 := n3_; clear n0_ n1_ n2_ n3_; clear hb hbox hg; have hcz32_0 : w31.cell? ⟨gb120, 0, none⟩ = some (.int .i64 a0_0) := (blk_cell BK120.out 0).trans rfl; have hcz32_1 : w31.cell? ⟨gb120, 1, none⟩ = some (.int .i64 a0_1) := (blk_cell BK120.out 1).trans rfl; have hcz32_2 : w31.cell? ⟨gb120, 2, none⟩ = some (.int .i64 a0_2) := (blk_cell BK120.out 2).trans rfl; have hcz32_3 : w31.cell? ⟨gb120, 3, none⟩ = some (.int .i64 a0_3) := (blk_cell BK120.out 3).trans rfl; have hcz32_4 : w31.cell? ⟨gb120, 4, none⟩ = some (.int .i64 a0_4) := (blk_cell BK120.out 4).trans rfl; have hfz32_0 := blk_frozen BK120.out 0; have hfz32_1 := blk_frozen BK120.out 1; have hfz32_2 := blk_frozen BK120.out 2; have hfz32_3 := blk_frozen BK120.out 3; have hfz32_4 := blk_frozen BK120.out 4) | ((with_reducible refine gate_callee (f := 61) rfl ?_); refine goesL_ (some 6) rfl rfl Tryd.func61 (by kernel_rfl) rfl #[.int .i64 a0_2] rfl (by (try simp only [List.map_toArray, List.map_cons, List.map_nil]); first | done | rfl | (simp only [List.length_drop, List.length_take]; rfl)) ?_; (with_reducible refine (earshotref12_May.calls a0_2 true _ A2.out).mono ?_); rintro e w' ⟨rfl, ⟨nd, rfl⟩⟩; refine ⟨_, rfl, ?_⟩))
                  go_ret
                  exact ⟨by first | rfl | (simp [errW_none, errW_some] <;> rfl) | (simp [*, errW_none, errW_some] <;> rfl), by repeat (first | (with_reducible first | exact HB.out | apply below_alloc | apply pw_below_drewN | apply below_drew1 | refine below_set ?_ GE120.out) | exact HB.out)⟩
                · rw [if_neg c30] at H
                  have c30b0 : decide (0 ≤ a0_4) = false := decide_eq_false c30
                  clear c30
                  obtain rfl := Option.some.inj H
                  go_enter Tryd.func26, Tryd.ntmps26
                  go_wp2_with (first | ((with_reducible refine gate_dst (N := 1) rfl ?_); refine box_event ?hg (N := 1) ?hd (cs := #[.int .i64 a0_0, .int .i64 a0_1, .int .i64 a0_2, .int .i64 a0_3, .int .i64 a0_4]) (t := 39) ?hr ?_; (case hd => rfl); (case hg => first | rfl | exact wanted_on rfl rfl rfl (by first | assumption | rfl | (simp [*]; done))); (case hr => first | (go_simp; done) | (go_simp; rfl)); intro gb120 hg w33 hbox hb; have n0_ := Aside0.mk (below_step (by repeat (first | (with_reducible first | exact HB.out | apply below_alloc | apply pw_below_drewN | apply below_drew1) | exact HB.out)) hb); have n1_ := Aside0.mk (hbox); have n2_ := Aside0.mk ((by rw [hg]; exact (below_size (by repeat (first | (with_reducible first | exact HB.out | apply below_alloc | apply pw_below_drewN | apply below_drew1) | exact HB.out))) : w.heap.size ≤ gb120)); have n3_ := Aside0.mk ((by rw [hg]; exact (below_size (by repeat (first | (with_reducible first | exact HB.out | apply below_alloc | apply pw_below_drewN | apply below_drew1) | exact HB.out))) : w.heap.size ≤ gb120)); clear HB; have HB := n0_; have BK120 := n1_; have GW120 := n2_; have GE120 := n3_; clear n0_ n1_ n2_ n3_; clear hb hbox hg; have hcz34_0 : w33.cell? ⟨gb120, 0, none⟩ = some (.int .i64 a0_0) := (blk_cell BK120.out 0).trans rfl; have hcz34_1 : w33.cell? ⟨gb120, 1, none⟩ = some (.int .i64 a0_1) := (blk_cell BK120.out 1).trans rfl; have hcz34_2 : w33.cell? ⟨gb120, 2, none⟩ = some (.int .i64 a0_2) := (blk_cell BK120.out 2).trans rfl; have hcz34_3 : w33.cell? ⟨gb120, 3, none⟩ = some (.int .i64 a0_3) := (blk_cell BK120.out 3).trans rfl; have hcz34_4 : w33.cell? ⟨gb120, 4, none⟩ = some (.int .i64 a0_4) := (blk_cell BK120.out 4).trans rfl; have hfz34_0 := blk_frozen BK120.out 0; have hfz34_1 := blk_frozen BK120.out 1; have hfz34_2 := blk_frozen BK120.out 2; have hfz34_3 := blk_frozen BK120.out 3; have hfz34_4 := blk_frozen BK120.out 4) | ((with_reducible refine gate_callee (f := 61) rfl ?_); refine goesL_ (some 6) rfl rfl Tryd.func61 (by kernel_rfl) rfl #[.int .i64 a0_2] rfl (by (try simp only [List.map_toArray, List.map_cons, List.map_nil]); first | done | rfl | (simp only [List.length_drop, List.length_take]; rfl)) ?_; (with_reducible refine (earshotref12_May.calls a0_2 true _ A2.out).mono ?_); rintro e w' ⟨rfl, ⟨nd, rfl⟩⟩; refine ⟨_, rfl, ?_⟩))
                  go_ret
                  exact ⟨by first | rfl | (simp [errW_none, errW_some] <;> rfl) | (simp [*, errW_none, errW_some] <;> rfl), by repeat (first | (with_reducible first | exact HB.out | apply below_alloc | apply pw_below_drewN | apply below_drew1 | refine below_set ?_ GE120.out) | exact HB.out)⟩
              · rw [if_neg c29] at H
                have c29b0 : decide (a0_3 ≤ a0_2) = false := decide_eq_false c29
                clear c29
                obtain rfl := Option.some.inj H
                go_enter Tryd.func26, Tryd.ntmps26
                go_wp2_with (first | ((with_reducible refine gate_dst (N := 1) rfl ?_); refine box_event ?hg (N := 1) ?hd (cs := #[.int .i64 a0_0, .int .i64 a0_1, .int .i64 a0_2, .int .i64 a0_3, .int .i64 a0_4]) (t := 39) ?hr ?_; (case hd => rfl); (case hg => first | rfl | exact wanted_on rfl rfl rfl (by first | assumption | rfl | (simp [*]; done))); (case hr => first | (go_simp; done) | (go_simp; rfl)); intro gb120 hg w35 hbox hb; have n0_ := Aside0.mk (below_step (by repeat (first | (with_reducible first | exact HB.out | apply below_alloc | apply pw_below_drewN | apply below_drew1) | exact HB.out)) hb); have n1_ := Aside0.mk (hbox); have n2_ := Aside0.mk ((by rw [hg]; exact (below_size (by repeat (first | (with_reducible first | exact HB.out | apply below_alloc | apply pw_below_drewN | apply below_drew1) | exact HB.out))) : w.heap.size ≤ gb120)); have n3_ := Aside0.mk ((by rw [hg]; exact (below_size (by repeat (first | (with_reducible first | exact HB.out | apply below_alloc | apply pw_below_drewN | apply below_drew1) | exact HB.out))) : w.heap.size ≤ gb120)); clear HB; have HB := n0_; have BK120 := n1_; have GW120 := n2_; have GE120 := n3_; clear n0_ n1_ n2_ n3_; clear hb hbox hg; have hcz36_0 : w35.cell? ⟨gb120, 0, none⟩ = some (.int .i64 a0_0) := (blk_cell BK120.out 0).trans rfl; have hcz36_1 : w35.cell? ⟨gb120, 1, none⟩ = some (.int .i64 a0_1) := (blk_cell BK120.out 1).trans rfl; have hcz36_2 : w35.cell? ⟨gb120, 2, none⟩ = some (.int .i64 a0_2) := (blk_cell BK120.out 2).trans rfl; have hcz36_3 : w35.cell? ⟨gb120, 3, none⟩ = some (.int .i64 a0_3) := (blk_cell BK120.out 3).trans rfl; have hcz36_4 : w35.cell? ⟨gb120, 4, none⟩ = some (.int .i64 a0_4) := (blk_cell BK120.out 4).trans rfl; have hfz36_0 := blk_frozen BK120.out 0; have hfz36_1 := blk_frozen BK120.out 1; have hfz36_2 := blk_frozen BK120.out 2; have hfz36_3 := blk_frozen BK120.out 3; have hfz36_4 := blk_frozen BK120.out 4) | ((with_reducible refine gate_callee (f := 61) rfl ?_); refine goesL_ (some 6) rfl rfl Tryd.func61 (by kernel_rfl) rfl #[.int .i64 a0_2] rfl (by (try simp only [List.map_toArray, List.map_cons, List.map_nil]); first | done | rfl | (simp only [List.length_drop, List.length_take]; rfl)) ?_; (with_reducible refine (earshotref12_May.calls a0_2 true _ A2.out).mono ?_); rintro e w' ⟨rfl, ⟨nd, rfl⟩⟩; refine ⟨_, rfl, ?_⟩))
                go_ret
                exact ⟨by first | rfl | (simp [errW_none, errW_some] <;> rfl) | (simp [*, errW_none, errW_some] <;> rfl), by repeat (first | (with_reducible first | exact HB.out | apply below_alloc | apply pw_below_drewN | apply below_drew1 | refine below_set ?_ GE120.out) | exact HB.out)⟩
            · rw [if_neg c28] at H
              have c28b0 : decide (1 ≤ a0_3) = false := decide_eq_false c28
              clear c28
              obtain rfl := Option.some.inj H
              go_enter Tryd.func26, Tryd.ntmps26
              go_wp2_with (first | ((with_reducible refine gate_dst (N := 1) rfl ?_); refine box_event ?hg (N := 1) ?hd (cs := #[.int .i64 a0_0, .int .i64 a0_1, .int .i64 a0_2, .int .i64 a0_3, .int .i64 a0_4]) (t := 39) ?hr ?_; (case hd => rfl); (case hg => first | rfl | exact wanted_on rfl rfl rfl (by first | assumption | rfl | (simp [*]; done))); (case hr => first | (go_simp; done) | (go_simp; rfl)); intro gb120 hg w37 hbox hb; have n0_ := Aside0.mk (below_step (by repeat (first | (with_reducible first | exact HB.out | apply below_alloc | apply pw_below_drewN | apply below_drew1) | exact HB.out)) hb); have n1_ := Aside0.mk (hbox); have n2_ := Aside0.mk ((by rw [hg]; exact (below_size (by repeat (first | (with_reducible first | exact HB.out | apply below_alloc | apply pw_below_drewN | apply below_drew1) | exact HB.out))) : w.heap.size ≤ gb120)); have n3_ := Aside0.mk ((by rw [hg]; exact (below_size (by repeat (first | (with_reducible first | exact HB.out | apply below_alloc | apply pw_below_drewN | apply below_drew1) | exact HB.out))) : w.heap.size ≤ gb120)); clear HB; have HB := n0_; have BK120 := n1_; have GW120 := n2_; have GE120 := n3_; clear n0_ n1_ n2_ n3_; clear hb hbox hg; have hcz38_0 : w37.cell? ⟨gb120, 0, none⟩ = some (.int .i64 a0_0) := (blk_cell BK120.out 0).trans rfl; have hcz38_1 : w37.cell? ⟨gb120, 1, none⟩ = some (.int .i64 a0_1) := (blk_cell BK120.out 1).trans rfl; have hcz38_2 : w37.cell? ⟨gb120, 2, none⟩ = some (.int .i64 a0_2) := (blk_cell BK120.out 2).trans rfl; have hcz38_3 : w37.cell? ⟨gb120, 3, none⟩ = some (.int .i64 a0_3) := (blk_cell BK120.out 3).trans rfl; have hcz38_4 : w37.cell? ⟨gb120, 4, none⟩ = some (.int .i64 a0_4) := (blk_cell BK120.out 4).trans rfl; have hfz38_0 := blk_frozen BK120.out 0; have hfz38_1 := blk_frozen BK120.out 1; have hfz38_2 := blk_frozen BK120.out 2; have hfz38_3 := blk_frozen BK120.out 3; have hfz38_4 := blk_frozen BK120.out 4) | ((with_reducible refine gate_callee (f := 61) rfl ?_); refine goesL_ (some 6) rfl rfl Tryd.func61 (by kernel_rfl) rfl #[.int .i64 a0_2] rfl (by (try simp only [List.map_toArray, List.map_cons, List.map_nil]); first | done | rfl | (simp only [List.length_drop, List.length_take]; rfl)) ?_; (with_reducible refine (earshotref12_May.calls a0_2 true _ A2.out).mono ?_); rintro e w' ⟨rfl, ⟨nd, rfl⟩⟩; refine ⟨_, rfl, ?_⟩))
              go_ret
              exact ⟨by first | rfl | (simp [errW_none, errW_some] <;> rfl) | (simp [*, errW_none, errW_some] <;> rfl), by repeat (first | (with_reducible first | exact HB.out | apply below_alloc | apply pw_below_drewN | apply below_drew1 | refine below_set ?_ GE120.out) | exact HB.out)⟩
          · replace c27 := Bool.eq_false_iff.mpr c27
            subst c27
            have H1 : (some false) = some r := by rw [if_neg (show ¬ (false = true) by decide)] at H; exact H
            clear H
            have H := H1
            clear H1
            obtain rfl := Option.some.inj H
            go_enter Tryd.func26, Tryd.ntmps26
            go_wp2_with (first | ((with_reducible refine gate_dst (N := 1) rfl ?_); refine box_event ?hg (N := 1) ?hd (cs := #[.int .i64 a0_0, .int .i64 a0_1, .int .i64 a0_2, .int .i64 a0_3, .int .i64 a0_4]) (t := 39) ?hr ?_; (case hd => rfl); (case hg => first | rfl | exact wanted_on rfl rfl rfl (by first | assumption | rfl | (simp [*]; done))); (case hr => first | (go_simp; done) | (go_simp; rfl)); intro gb120 hg w39 hbox hb; have n0_ := Aside0.mk (below_step (by repeat (first | (with_reducible first | exact HB.out | apply below_alloc | apply pw_below_drewN | apply below_drew1) | exact HB.out)) hb); have n1_ := Aside0.mk (hbox); have n2_ := Aside0.mk ((by rw [hg]; exact (below_size (by repeat (first | (with_reducible first | exact HB.out | apply below_alloc | apply pw_below_drewN | apply below_drew1) | exact HB.out))) : w.heap.size ≤ gb120)); have n3_ := Aside0.mk ((by rw [hg]; exact (below_size (by repeat (first | (with_reducible first | exact HB.out | apply below_alloc | apply pw_below_drewN | apply below_drew1) | exact HB.out))) : w.heap.size ≤ gb120)); clear HB; have HB := n0_; have BK120 := n1_; have GW120 := n2_; have GE120 := n3_; clear n0_ n1_ n2_ n3_; clear hb hbox hg; have hcz40_0 : w39.cell? ⟨gb120, 0, none⟩ = some (.int .i64 a0_0) := (blk_cell BK120.out 0).trans rfl; have hcz40_1 : w39.cell? ⟨gb120, 1, none⟩ = some (.int .i64 a0_1) := (blk_cell BK120.out 1).trans rfl; have hcz40_2 : w39.cell? ⟨gb120, 2, none⟩ = some (.int .i64 a0_2) := (blk_cell BK120.out 2).trans rfl; have hcz40_3 : w39.cell? ⟨gb120, 3, none⟩ = some (.int .i64 a0_3) := (blk_cell BK120.out 3).trans rfl; have hcz40_4 : w39.cell? ⟨gb120, 4, none⟩ = some (.int .i64 a0_4) := (blk_cell BK120.out 4).trans rfl; have hfz40_0 := blk_frozen BK120.out 0; have hfz40_1 := blk_frozen BK120.out 1; have hfz40_2 := blk_frozen BK120.out 2; have hfz40_3 := blk_frozen BK120.out 3; have hfz40_4 := blk_frozen BK120.out 4) | ((with_reducible refine gate_callee (f := 61) rfl ?_); refine goesL_ (some 6) rfl rfl Tryd.func61 (by kernel_rfl) rfl #[.int .i64 a0_2] rfl (by (try simp only [List.map_toArray, List.map_cons, List.map_nil]); first | done | rfl | (simp only [List.length_drop, List.length_take]; rfl)) ?_; (with_reducible refine (earshotref12_May.calls a0_2 false _ A2.out).mono ?_); rintro e w' ⟨rfl, ⟨nd, rfl⟩⟩; refine ⟨_, rfl, ?_⟩))
            go_ret
            exact ⟨by first | rfl | (simp [errW_none, errW_some] <;> rfl) | (simp [*, errW_none, errW_some] <;> rfl), by repeat (first | (with_reducible first | exact HB.out | apply below_alloc | apply pw_below_drewN | apply below_drew1 | refine below_set ?_ GE120.out) | exact HB.out)⟩
        · rw [if_neg c26] at H
          have c26b0 : decide (a0_1 ≤ a0_0) = false := decide_eq_false c26
          clear c26
          obtain rfl := Option.some.inj H
          go_enter Tryd.func26, Tryd.ntmps26
          go_wp2_with (first | ((with_reducible refine gate_dst (N := 1) rfl ?_); refine box_event ?hg (N := 1) ?hd (cs := #[.int .i64 a0_0, .int .i64 a0_1, .int .i64 a0_2, .int .i64 a0_3, .int .i64 a0_4]) (t := 39) ?hr ?_; (case hd => rfl); (case hg => first | rfl | exact wanted_on rfl rfl rfl (by first | assumption | rfl | (simp [*]; done))); (case hr => first | (go_simp; done) | (go_simp; rfl)); intro gb120 hg w41 hbox hb; have n0_ := Aside0.mk (below_step (by repeat (first | (with_reducible first | exact HB.out | apply below_alloc | apply pw_below_drewN | apply below_drew1) | exact HB.out)) hb); have n1_ := Aside0.mk (hbox); have n2_ := Aside0.mk ((by rw [hg]; exact (below_size (by repeat (first | (with_reducible first | exact HB.out | apply below_alloc | apply pw_below_drewN | apply below_drew1) | exact HB.out))) : w.heap.size ≤ gb120)); have n3_ := Aside0.mk ((by rw [hg]; exact (below_size (by repeat (first | (with_reducible first | exact HB.out | apply below_alloc | apply pw_below_drewN | apply below_drew1) | exact HB.out))) : w.heap.size ≤ gb120)); clear HB; have HB := n0_; have BK120 := n1_; have GW120 := n2_; have GE120 := n3_; clear n0_ n1_ n2_ n3_; clear hb hbox hg; have hcz42_0 : w41.cell? ⟨gb120, 0, none⟩ = some (.int .i64 a0_0) := (blk_cell BK120.out 0).trans rfl; have hcz42_1 : w41.cell? ⟨gb120, 1, none⟩ = some (.int .i64 a0_1) := (blk_cell BK120.out 1).trans rfl; have hcz42_2 : w41.cell? ⟨gb120, 2, none⟩ = some (.int .i64 a0_2) := (blk_cell BK120.out 2).trans rfl; have hcz42_3 : w41.cell? ⟨gb120, 3, none⟩ = some (.int .i64 a0_3) := (blk_cell BK120.out 3).trans rfl; have hcz42_4 : w41.cell? ⟨gb120, 4, none⟩ = some (.int .i64 a0_4) := (blk_cell BK120.out 4).trans rfl; have hfz42_0 := blk_frozen BK120.out 0; have hfz42_1 := blk_frozen BK120.out 1; have hfz42_2 := blk_frozen BK120.out 2; have hfz42_3 := blk_frozen BK120.out 3; have hfz42_4 := blk_frozen BK120.out 4) | ((with_reducible refine gate_callee (f := 61) rfl ?_); refine goesL_ (some 6) rfl rfl Tryd.func61 (by kernel_rfl) rfl #[.int .i64 a0_2] rfl (by (try simp only [List.map_toArray, List.map_cons, List.map_nil]); first | done | rfl | (simp only [List.length_drop, List.length_take]; rfl)) ?_; (with_reducible refine (earshotref12_May.calls a0_2 t121 _ A2.out).mono ?_); rintro e w' ⟨rfl, ⟨nd, rfl⟩⟩; refine ⟨_, rfl, ?_⟩))
          go_ret
          exact ⟨by first | rfl | (simp [errW_none, errW_some] <;> rfl) | (simp [*, errW_none, errW_some] <;> rfl), by repeat (first | (with_reducible first | exact HB.out | apply below_alloc | apply pw_below_drewN | apply below_drew1 | refine below_set ?_ GE120.out) | exact HB.out)⟩
      · rw [if_neg c25] at H
        have c25b0 : decide (1 ≤ a0_1) = false := decide_eq_false c25
        clear c25
        obtain rfl := Option.some.inj H
        go_enter Tryd.func26, Tryd.ntmps26
        go_wp2_with (first | ((with_reducible refine gate_dst (N := 1) rfl ?_); refine box_event ?hg (N := 1) ?hd (cs := #[.int .i64 a0_0, .int .i64 a0_1, .int .i64 a0_2, .int .i64 a0_3, .int .i64 a0_4]) (t := 39) ?hr ?_; (case hd => rfl); (case hg => first | rfl | exact wanted_on rfl rfl rfl (by first | assumption | rfl | (simp [*]; done))); (case hr => first | (go_simp; done) | (go_simp; rfl)); intro gb120 hg w43 hbox hb; have n0_ := Aside0.mk (below_step (by repeat (first | (with_reducible first | exact HB.out | apply below_alloc | apply pw_below_drewN | apply below_drew1) | exact HB.out)) hb); have n1_ := Aside0.mk (hbox); have n2_ := Aside0.mk ((by rw [hg]; exact (below_size (by repeat (first | (with_reducible first | exact HB.out | apply below_alloc | apply pw_below_drewN | apply below_drew1) | exact HB.out))) : w.heap.size ≤ gb120)); have n3_ := Aside0.mk ((by rw [hg]; exact (below_size (by repeat (first | (with_reducible first | exact HB.out | apply below_alloc | apply pw_below_drewN | apply below_drew1) | exact HB.out))) : w.heap.size ≤ gb120)); clear HB; have HB := n0_; have BK120 := n1_; have GW120 := n2_; have GE120 := n3_; clear n0_ n1_ n2_ n3_; clear hb hbox hg; have hcz44_0 : w43.cell? ⟨gb120, 0, none⟩ = some (.int .i64 a0_0) := (blk_cell BK120.out 0).trans rfl; have hcz44_1 : w43.cell? ⟨gb120, 1, none⟩ = some (.int .i64 a0_1) := (blk_cell BK120.out 1).trans rfl; have hcz44_2 : w43.cell? ⟨gb120, 2, none⟩ = some (.int .i64 a0_2) := (blk_cell BK120.out 2).trans rfl; have hcz44_3 : w43.cell? ⟨gb120, 3, none⟩ = some (.int .i64 a0_3) := (blk_cell BK120.out 3).trans rfl; have hcz44_4 : w43.cell? ⟨gb120, 4, none⟩ = some (.int .i64 a0_4) := (blk_cell BK120.out 4).trans rfl; have hfz44_0 := blk_frozen BK120.out 0; have hfz44_1 := blk_frozen BK120.out 1; have hfz44_2 := blk_frozen BK120.out 2; have hfz44_3 := blk_frozen BK120.out 3; have hfz44_4 := blk_frozen BK120.out 4) | ((with_reducible refine gate_callee (f := 61) rfl ?_); refine goesL_ (some 6) rfl rfl Tryd.func61 (by kernel_rfl) rfl #[.int .i64 a0_2] rfl (by (try simp only [List.map_toArray, List.map_cons, List.map_nil]); first | done | rfl | (simp only [List.length_drop, List.length_take]; rfl)) ?_; (with_reducible refine (earshotref12_May.calls a0_2 t121 _ A2.out).mono ?_); rintro e w' ⟨rfl, ⟨nd, rfl⟩⟩; refine ⟨_, rfl, ?_⟩))
        go_ret
        exact ⟨by first | rfl | (simp [errW_none, errW_some] <;> rfl) | (simp [*, errW_none, errW_some] <;> rfl), by repeat (first | (with_reducible first | exact HB.out | apply below_alloc | apply pw_below_drewN | apply below_drew1 | refine below_set ?_ GE120.out) | exact HB.out)⟩
    · rw [if_neg c24] at H
      have c24b0 : (a0_0 == 32) = false := beq_eq_false_iff_ne.mpr c24
      have c24b1 : (a0_0 != 32) = true := bne_iff_ne.mpr c24
      by_cases c45 : a0_0 = 64
      · rw [if_pos c45] at H
        have c45b0 : (a0_0 == 64) = true := beq_iff_eq.mpr c45
        have c45b1 : (a0_0 != 64) = false := bne_eq_false_iff_eq.mpr c45
        clear c45
        by_cases c46 : a0_1 ≥ 1
        · rw [if_pos c46] at H
          have c46b0 : decide (1 ≤ a0_1) = true := decide_eq_true c46
          clear c46
          by_cases c47 : a0_1 ≤ a0_0
          · rw [if_pos c47] at H
            have c47b0 : decide (a0_1 ≤ a0_0) = true := decide_eq_true c47
            clear c47
            by_cases c48 : t121 = true
            · subst c48
              have H1 : (if a0_3 ≥ 1 then (if a0_3 ≤ a0_2 then (if a0_4 ≥ 0 then (some (decide (a0_4 ≤ 32767))) else (some false)) else (some false)) else (some false)) = some r := by rw [if_pos rfl] at H; exact H
              clear H
              have H := H1
              clear H1
              by_cases c49 : a0_3 ≥ 1
              · rw [if_pos c49] at H
                have c49b0 : decide (1 ≤ a0_3) = true := decide_eq_true c49
                clear c49
                by_cases c50 : a0_3 ≤ a0_2
                · rw [if_pos c50] at H
                  have c50b0 : decide (a0_3 ≤ a0_2) = true := decide_eq_true c50
                  clear c50
                  by_cases c51 : a0_4 ≥ 0
                  · rw [if_pos c51] at H
                    have c51b0 : decide (0 ≤ a0_4) = true := decide_eq_true c51
                    clear c51
                    obtain rfl := Option.some.inj H
                    go_enter Tryd.func26, Tryd.ntmps26
                    go_wp2_with (first | ((with_reducible refine gate_dst (N := 1) rfl ?_); refine box_event ?hg (N := 1) ?hd (cs := #[.int .i64 a0_0, .int .i64 a0_1, .int .i64 a0_2, .int .i64 a0_3, .int .i64 a0_4]) (t := 39) ?hr ?_; (case hd => rfl); (case hg => first | rfl | exact wanted_on rfl rfl rfl (by first | assumption | rfl | (simp [*]; done))); (case hr => first | (go_simp; done) | (go_simp; rfl)); intro gb120 hg w52 hbox hb; have n0_ := Aside0.mk (below_step (by repeat (first | (with_reducible first | exact HB.out | apply below_alloc | apply pw_below_drewN | apply below_drew1) | exact HB.out)) hb); have n1_ := Aside0.mk (hbox); have n2_ := Aside0.mk ((by rw [hg]; exact (below_size (by repeat (first | (with_reducible first | exact HB.out | apply below_alloc | apply pw_below_drewN | apply below_drew1) | exact HB.out))) : w.heap.size ≤ gb120)); have n3_ := Aside0.mk ((by rw [hg]; exact (below_size (by repeat (first | (with_reducible first | exact HB.out | apply below_alloc | apply pw_below_drewN | apply below_drew1) | exact HB.out))) : w.heap.size ≤ gb120)); clear HB; have HB := n0_; have BK120 := n1_; have GW120 := n2_; have GE120 := n3_; clear n0_ n1_ n2_ n3_; clear hb hbox hg; have hcz53_0 : w52.cell? ⟨gb120, 0, none⟩ = some (.int .i64 a0_0) := (blk_cell BK120.out 0).trans rfl; have hcz53_1 : w52.cell? ⟨gb120, 1, none⟩ = some (.int .i64 a0_1) := (blk_cell BK120.out 1).trans rfl; have hcz53_2 : w52.cell? ⟨gb120, 2, none⟩ = some (.int .i64 a0_2) := (blk_cell BK120.out 2).trans rfl; have hcz53_3 : w52.cell? ⟨gb120, 3, none⟩ = some (.int .i64 a0_3) := (blk_cell BK120.out 3).trans rfl; have hcz53_4 : w52.cell? ⟨gb120, 4, none⟩ = some (.int .i64 a0_4) := (blk_cell BK120.out 4).trans rfl; have hfz53_0 := blk_frozen BK120.out 0; have hfz53_1 := blk_frozen BK120.out 1; have hfz53_2 := blk_frozen BK120.out 2; have hfz53_3 := blk_frozen BK120.out 3; have hfz53_4 := blk_frozen BK120.out 4) | ((with_reducible refine gate_callee (f := 61) rfl ?_); refine goesL_ (some 6) rfl rfl Tryd.func61 (by kernel_rfl) rfl #[.int .i64 a0_2] rfl (by (try simp only [List.map_toArray, List.map_cons, List.map_nil]); first | done | rfl | (simp only [List.length_drop, List.length_take]; rfl)) ?_; (with_reducible refine (earshotref12_May.calls a0_2 true _ A2.out).mono ?_); rintro e w' ⟨rfl, ⟨nd, rfl⟩⟩; refine ⟨_, rfl, ?_⟩))
                    go_ret
                    exact ⟨by first | rfl | (simp [errW_none, errW_some] <;> rfl) | (simp [*, errW_none, errW_some] <;> rfl), by repeat (first | (with_reducible first | exact HB.out | apply below_alloc | apply pw_below_drewN | apply below_drew1 | refine below_set ?_ GE120.out) | exact HB.out)⟩
                  · rw [if_neg c51] at H
                    have c51b0 : decide (0 ≤ a0_4) = false := decide_eq_false c51
                    clear c51
                    obtain rfl := Option.some.inj H
                    go_enter Tryd.func26, Tryd.ntmps26
                    go_wp2_with (first | ((with_reducible refine gate_dst (N := 1) rfl ?_); refine box_event ?hg (N := 1) ?hd (cs := #[.int .i64 a0_0, .int .i64 a0_1, .int .i64 a0_2, .int .i64 a0_3, .int .i64 a0_4]) (t := 39) ?hr ?_; (case hd => rfl); (case hg => first | rfl | exact wanted_on rfl rfl rfl (by first | assumption | rfl | (simp [*]; done))); (case hr => first | (go_simp; done) | (go_simp; rfl)); intro gb120 hg w54 hbox hb; have n0_ := Aside0.mk (below_step (by repeat (first | (with_reducible first | exact HB.out | apply below_alloc | apply pw_below_drewN | apply below_drew1) | exact HB.out)) hb); have n1_ := Aside0.mk (hbox); have n2_ := Aside0.mk ((by rw [hg]; exact (below_size (by repeat (first | (with_reducible first | exact HB.out | apply below_alloc | apply pw_below_drewN | apply below_drew1) | exact HB.out))) : w.heap.size ≤ gb120)); have n3_ := Aside0.mk ((by rw [hg]; exact (below_size (by repeat (first | (with_reducible first | exact HB.out | apply below_alloc | apply pw_below_drewN | apply below_drew1) | exact HB.out))) : w.heap.size ≤ gb120)); clear HB; have HB := n0_; have BK120 := n1_; have GW120 := n2_; have GE120 := n3_; clear n0_ n1_ n2_ n3_; clear hb hbox hg; have hcz55_0 : w54.cell? ⟨gb120, 0, none⟩ = some (.int .i64 a0_0) := (blk_cell BK120.out 0).trans rfl; have hcz55_1 : w54.cell? ⟨gb120, 1, none⟩ = some (.int .i64 a0_1) := (blk_cell BK120.out 1).trans rfl; have hcz55_2 : w54.cell? ⟨gb120, 2, none⟩ = some (.int .i64 a0_2) := (blk_cell BK120.out 2).trans rfl; have hcz55_3 : w54.cell? ⟨gb120, 3, none⟩ = some (.int .i64 a0_3) := (blk_cell BK120.out 3).trans rfl; have hcz55_4 : w54.cell? ⟨gb120, 4, none⟩ = some (.int .i64 a0_4) := (blk_cell BK120.out 4).trans rfl; have hfz55_0 := blk_frozen BK120.out 0; have hfz55_1 := blk_frozen BK120.out 1; have hfz55_2 := blk_frozen BK120.out 2; have hfz55_3 := blk_frozen BK120.out 3; have hfz55_4 := blk_frozen BK120.out 4) | ((with_reducible refine gate_callee (f := 61) rfl ?_); refine goesL_ (some 6) rfl rfl Tryd.func61 (by kernel_rfl) rfl #[.int .i64 a0_2] rfl (by (try simp only [List.map_toArray, List.map_cons, List.map_nil]); first | done | rfl | (simp only [List.length_drop, List.length_take]; rfl)) ?_; (with_reducible refine (earshotref12_May.calls a0_2 true _ A2.out).mono ?_); rintro e w' ⟨rfl, ⟨nd, rfl⟩⟩; refine ⟨_, rfl, ?_⟩))
                    go_ret
                    exact ⟨by first | rfl | (simp [errW_none, errW_some] <;> rfl) | (simp [*, errW_none, errW_some] <;> rfl), by repeat (first | (with_reducible first | exact HB.out | apply below_alloc | apply pw_below_drewN | apply below_drew1 | refine below_set ?_ GE120.out) | exact HB.out)⟩
                · rw [if_neg c50] at H
                  have c50b0 : decide (a0_3 ≤ a0_2) = false := decide_eq_false c50
                  clear c50
                  obtain rfl := Option.some.inj H
                  go_enter Tryd.func26, Tryd.ntmps26
                  go_wp2_with (first | ((with_reducible refine gate_dst (N := 1) rfl ?_); refine box_event ?hg (N := 1) ?hd (cs := #[.int .i64 a0_0, .int .i64 a0_1, .int .i64 a0_2, .int .i64 a0_3, .int .i64 a0_4]) (t := 39) ?hr ?_; (case hd => rfl); (case hg => first | rfl | exact wanted_on rfl rfl rfl (by first | assumption | rfl | (simp [*]; done))); (case hr => first | (go_simp; done) | (go_simp; rfl)); intro gb120 hg w56 hbox hb; have n0_ := Aside0.mk (below_step (by repeat (first | (with_reducible first | exact HB.out | apply below_alloc | apply pw_below_drewN | apply below_drew1) | exact HB.out)) hb); have n1_ := Aside0.mk (hbox); have n2_ := Aside0.mk ((by rw [hg]; exact (below_size (by repeat (first | (with_reducible first | exact HB.out | apply below_alloc | apply pw_below_drewN | apply below_drew1) | exact HB.out))) : w.heap.size ≤ gb120)); have n3_ := Aside0.mk ((by rw [hg]; exact (below_size (by repeat (first | (with_reducible first | exact HB.out | apply below_alloc | apply pw_below_drewN | apply below_drew1) | exact HB.out))) : w.heap.size ≤ gb120)); clear HB; have HB := n0_; have BK120 := n1_; have GW120 := n2_; have GE120 := n3_; clear n0_ n1_ n2_ n3_; clear hb hbox hg; have hcz57_0 : w56.cell? ⟨gb120, 0, none⟩ = some (.int .i64 a0_0) := (blk_cell BK120.out 0).trans rfl; have hcz57_1 : w56.cell? ⟨gb120, 1, none⟩ = some (.int .i64 a0_1) := (blk_cell BK120.out 1).trans rfl; have hcz57_2 : w56.cell? ⟨gb120, 2, none⟩ = some (.int .i64 a0_2) := (blk_cell BK120.out 2).trans rfl; have hcz57_3 : w56.cell? ⟨gb120, 3, none⟩ = some (.int .i64 a0_3) := (blk_cell BK120.out 3).trans rfl; have hcz57_4 : w56.cell? ⟨gb120, 4, none⟩ = some (.int .i64 a0_4) := (blk_cell BK120.out 4).trans rfl; have hfz57_0 := blk_frozen BK120.out 0; have hfz57_1 := blk_frozen BK120.out 1; have hfz57_2 := blk_frozen BK120.out 2; have hfz57_3 := blk_frozen BK120.out 3; have hfz57_4 := blk_frozen BK120.out 4) | ((with_reducible refine gate_callee (f := 61) rfl ?_); refine goesL_ (some 6) rfl rfl Tryd.func61 (by kernel_rfl) rfl #[.int .i64 a0_2] rfl (by (try simp only [List.map_toArray, List.map_cons, List.map_nil]); first | done | rfl | (simp only [List.length_drop, List.length_take]; rfl)) ?_; (with_reducible refine (earshotref12_May.calls a0_2 true _ A2.out).mono ?_); rintro e w' ⟨rfl, ⟨nd, rfl⟩⟩; refine ⟨_, rfl, ?_⟩))
                  go_ret
                  exact ⟨by first | rfl | (simp [errW_none, errW_some] <;> rfl) | (simp [*, errW_none, errW_some] <;> rfl), by repeat (first | (with_reducible first | exact HB.out | apply below_alloc | apply pw_below_drewN | apply below_drew1 | refine below_set ?_ GE120.out) | exact HB.out)⟩
              · rw [if_neg c49] at H
                have c49b0 : decide (1 ≤ a0_3) = false := decide_eq_false c49
                clear c49
                obtain rfl := Option.some.inj H
                go_enter Tryd.func26, Tryd.ntmps26
                go_wp2_with (first | ((with_reducible refine gate_dst (N := 1) rfl ?_); refine box_event ?hg (N := 1) ?hd (cs := #[.int .i64 a0_0, .int .i64 a0_1, .int .i64 a0_2, .int .i64 a0_3, .int .i64 a0_4]) (t := 39) ?hr ?_; (case hd => rfl); (case hg => first | rfl | exact wanted_on rfl rfl rfl (by first | assumption | rfl | (simp [*]; done))); (case hr => first | (go_simp; done) | (go_simp; rfl)); intro gb120 hg w58 hbox hb; have n0_ := Aside0.mk (below_step (by repeat (first | (with_reducible first | exact HB.out | apply below_alloc | apply pw_below_drewN | apply below_drew1) | exact HB.out)) hb); have n1_ := Aside0.mk (hbox); have n2_ := Aside0.mk ((by rw [hg]; exact (below_size (by repeat (first | (with_reducible first | exact HB.out | apply below_alloc | apply pw_below_drewN | apply below_drew1) | exact HB.out))) : w.heap.size ≤ gb120)); have n3_ := Aside0.mk ((by rw [hg]; exact (below_size (by repeat (first | (with_reducible first | exact HB.out | apply below_alloc | apply pw_below_drewN | apply below_drew1) | exact HB.out))) : w.heap.size ≤ gb120)); clear HB; have HB := n0_; have BK120 := n1_; have GW120 := n2_; have GE120 := n3_; clear n0_ n1_ n2_ n3_; clear hb hbox hg; have hcz59_0 : w58.cell? ⟨gb120, 0, none⟩ = some (.int .i64 a0_0) := (blk_cell BK120.out 0).trans rfl; have hcz59_1 : w58.cell? ⟨gb120, 1, none⟩ = some (.int .i64 a0_1) := (blk_cell BK120.out 1).trans rfl; have hcz59_2 : w58.cell? ⟨gb120, 2, none⟩ = some (.int .i64 a0_2) := (blk_cell BK120.out 2).trans rfl; have hcz59_3 : w58.cell? ⟨gb120, 3, none⟩ = some (.int .i64 a0_3) := (blk_cell BK120.out 3).trans rfl; have hcz59_4 : w58.cell? ⟨gb120, 4, none⟩ = some (.int .i64 a0_4) := (blk_cell BK120.out 4).trans rfl; have hfz59_0 := blk_frozen BK120.out 0; have hfz59_1 := blk_frozen BK120.out 1; have hfz59_2 := blk_frozen BK120.out 2; have hfz59_3 := blk_frozen BK120.out 3; have hfz59_4 := blk_frozen BK120.out 4) | ((with_reducible refine gate_callee (f := 61) rfl ?_); refine goesL_ (some 6) rfl rfl Tryd.func61 (by kernel_rfl) rfl #[.int .i64 a0_2] rfl (by (try simp only [List.map_toArray, List.map_cons, List.map_nil]); first | done | rfl | (simp only [List.length_drop, List.length_take]; rfl)) ?_; (with_reducible refine (earshotref12_May.calls a0_2 true _ A2.out).mono ?_); rintro e w' ⟨rfl, ⟨nd, rfl⟩⟩; refine ⟨_, rfl, ?_⟩))
                go_ret
                exact ⟨by first | rfl | (simp [errW_none, errW_some] <;> rfl) | (simp [*, errW_none, errW_some] <;> rfl), by repeat (first | (with_reducible first | exact HB.out | apply below_alloc | apply pw_below_drewN | apply below_drew1 | refine below_set ?_ GE120.out) | exact HB.out)⟩
            · replace c48 := Bool.eq_false_iff.mpr c48
              subst c48
              have H1 : (some false) = some r := by rw [if_neg (show ¬ (false = true) by decide)] at H; exact H
              clear H
              have H := H1
              clear H1
              obtain rfl := Option.some.inj H
              go_enter Tryd.func26, Tryd.ntmps26
              go_wp2_with (first | ((with_reducible refine gate_dst (N := 1) rfl ?_); refine box_event ?hg (N := 1) ?hd (cs := #[.int .i64 a0_0, .int .i64 a0_1, .int .i64 a0_2, .int .i64 a0_3, .int .i64 a0_4]) (t := 39) ?hr ?_; (case hd => rfl); (case hg => first | rfl | exact wanted_on rfl rfl rfl (by first | assumption | rfl | (simp [*]; done))); (case hr => first | (go_simp; done) | (go_simp; rfl)); intro gb120 hg w60 hbox hb; have n0_ := Aside0.mk (below_step (by repeat (first | (with_reducible first | exact HB.out | apply below_alloc | apply pw_below_drewN | apply below_drew1) | exact HB.out)) hb); have n1_ := Aside0.mk (hbox); have n2_ := Aside0.mk ((by rw [hg]; exact (below_size (by repeat (first | (with_reducible first | exact HB.out | apply below_alloc | apply pw_below_drewN | apply below_drew1) | exact HB.out))) : w.heap.size ≤ gb120)); have n3_ := Aside0.mk ((by rw [hg]; exact (below_size (by repeat (first | (with_reducible first | exact HB.out | apply below_alloc | apply pw_below_drewN | apply below_drew1) | exact HB.out))) : w.heap.size ≤ gb120)); clear HB; have HB := n0_; have BK120 := n1_; have GW120 := n2_; have GE120 := n3_; clear n0_ n1_ n2_ n3_; clear hb hbox hg; have hcz61_0 : w60.cell? ⟨gb120, 0, none⟩ = some (.int .i64 a0_0) := (blk_cell BK120.out 0).trans rfl; have hcz61_1 : w60.cell? ⟨gb120, 1, none⟩ = some (.int .i64 a0_1) := (blk_cell BK120.out 1).trans rfl; have hcz61_2 : w60.cell? ⟨gb120, 2, none⟩ = some (.int .i64 a0_2) := (blk_cell BK120.out 2).trans rfl; have hcz61_3 : w60.cell? ⟨gb120, 3, none⟩ = some (.int .i64 a0_3) := (blk_cell BK120.out 3).trans rfl; have hcz61_4 : w60.cell? ⟨gb120, 4, none⟩ = some (.int .i64 a0_4) := (blk_cell BK120.out 4).trans rfl; have hfz61_0 := blk_frozen BK120.out 0; have hfz61_1 := blk_frozen BK120.out 1; have hfz61_2 := blk_frozen BK120.out 2; have hfz61_3 := blk_frozen BK120.out 3; have hfz61_4 := blk_frozen BK120.out 4) | ((with_reducible refine gate_callee (f := 61) rfl ?_); refine goesL_ (some 6) rfl rfl Tryd.func61 (by kernel_rfl) rfl #[.int .i64 a0_2] rfl (by (try simp only [List.map_toArray, List.map_cons, List.map_nil]); first | done | rfl | (simp only [List.length_drop, List.length_take]; rfl)) ?_; (with_reducible refine (earshotref12_May.calls a0_2 false _ A2.out).mono ?_); rintro e w' ⟨rfl, ⟨nd, rfl⟩⟩; refine ⟨_, rfl, ?_⟩))
              go_ret
              exact ⟨by first | rfl | (simp [errW_none, errW_some] <;> rfl) | (simp [*, errW_none, errW_some] <;> rfl), by repeat (first | (with_reducible first | exact HB.out | apply below_alloc | apply pw_below_drewN | apply below_drew1 | refine below_set ?_ GE120.out) | exact HB.out)⟩
          · rw [if_neg c47] at H
            have c47b0 : decide (a0_1 ≤ a0_0) = false := decide_eq_false c47
            clear c47
            obtain rfl := Option.some.inj H
            go_enter Tryd.func26, Tryd.ntmps26
            go_wp2_with (first | ((with_reducible refine gate_dst (N := 1) rfl ?_); refine box_event ?hg (N := 1) ?hd (cs := #[.int .i64 a0_0, .int .i64 a0_1, .int .i64 a0_2, .int .i64 a0_3, .int .i64 a0_4]) (t := 39) ?hr ?_; (case hd => rfl); (case hg => first | rfl | exact wanted_on rfl rfl rfl (by first | assumption | rfl | (simp [*]; done))); (case hr => first | (go_simp; done) | (go_simp; rfl)); intro gb120 hg w62 hbox hb; have n0_ := Aside0.mk (below_step (by repeat (first | (with_reducible first | exact HB.out | apply below_alloc | apply pw_below_drewN | apply below_drew1) | exact HB.out)) hb); have n1_ := Aside0.mk (hbox); have n2_ := Aside0.mk ((by rw [hg]; exact (below_size (by repeat (first | (with_reducible first | exact HB.out | apply below_alloc | apply pw_below_drewN | apply below_drew1) | exact HB.out))) : w.heap.size ≤ gb120)); have n3_ := Aside0.mk ((by rw [hg]; exact (below_size (by repeat (first | (with_reducible first | exact HB.out | apply below_alloc | apply pw_below_drewN | apply below_drew1) | exact HB.out))) : w.heap.size ≤ gb120)); clear HB; have HB := n0_; have BK120 := n1_; have GW120 := n2_; have GE120 := n3_; clear n0_ n1_ n2_ n3_; clear hb hbox hg; have hcz63_0 : w62.cell? ⟨gb120, 0, none⟩ = some (.int .i64 a0_0) := (blk_cell BK120.out 0).trans rfl; have hcz63_1 : w62.cell? ⟨gb120, 1, none⟩ = some (.int .i64 a0_1) := (blk_cell BK120.out 1).trans rfl; have hcz63_2 : w62.cell? ⟨gb120, 2, none⟩ = some (.int .i64 a0_2) := (blk_cell BK120.out 2).trans rfl; have hcz63_3 : w62.cell? ⟨gb120, 3, none⟩ = some (.int .i64 a0_3) := (blk_cell BK120.out 3).trans rfl; have hcz63_4 : w62.cell? ⟨gb120, 4, none⟩ = some (.int .i64 a0_4) := (blk_cell BK120.out 4).trans rfl; have hfz63_0 := blk_frozen BK120.out 0; have hfz63_1 := blk_frozen BK120.out 1; have hfz63_2 := blk_frozen BK120.out 2; have hfz63_3 := blk_frozen BK120.out 3; have hfz63_4 := blk_frozen BK120.out 4) | ((with_reducible refine gate_callee (f := 61) rfl ?_); refine goesL_ (some 6) rfl rfl Tryd.func61 (by kernel_rfl) rfl #[.int .i64 a0_2] rfl (by (try simp only [List.map_toArray, List.map_cons, List.map_nil]); first | done | rfl | (simp only [List.length_drop, List.length_take]; rfl)) ?_; (with_reducible refine (earshotref12_May.calls a0_2 t121 _ A2.out).mono ?_); rintro e w' ⟨rfl, ⟨nd, rfl⟩⟩; refine ⟨_, rfl, ?_⟩))
            go_ret
            exact ⟨by first | rfl | (simp [errW_none, errW_some] <;> rfl) | (simp [*, errW_none, errW_some] <;> rfl), by repeat (first | (with_reducible first | exact HB.out | apply below_alloc | apply pw_below_drewN | apply below_drew1 | refine below_set ?_ GE120.out) | exact HB.out)⟩
        · rw [if_neg c46] at H
          have c46b0 : decide (1 ≤ a0_1) = false := decide_eq_false c46
          clear c46
          obtain rfl := Option.some.inj H
          go_enter Tryd.func26, Tryd.ntmps26
          go_wp2_with (first | ((with_reducible refine gate_dst (N := 1) rfl ?_); refine box_event ?hg (N := 1) ?hd (cs := #[.int .i64 a0_0, .int .i64 a0_1, .int .i64 a0_2, .int .i64 a0_3, .int .i64 a0_4]) (t := 39) ?hr ?_; (case hd => rfl); (case hg => first | rfl | exact wanted_on rfl rfl rfl (by first | assumption | rfl | (simp [*]; done))); (case hr => first | (go_simp; done) | (go_simp; rfl)); intro gb120 hg w64 hbox hb; have n0_ := Aside0.mk (below_step (by repeat (first | (with_reducible first | exact HB.out | apply below_alloc | apply pw_below_drewN | apply below_drew1) | exact HB.out)) hb); have n1_ := Aside0.mk (hbox); have n2_ := Aside0.mk ((by rw [hg]; exact (below_size (by repeat (first | (with_reducible first | exact HB.out | apply below_alloc | apply pw_below_drewN | apply below_drew1) | exact HB.out))) : w.heap.size ≤ gb120)); have n3_ := Aside0.mk ((by rw [hg]; exact (below_size (by repeat (first | (with_reducible first | exact HB.out | apply below_alloc | apply pw_below_drewN | apply below_drew1) | exact HB.out))) : w.heap.size ≤ gb120)); clear HB; have HB := n0_; have BK120 := n1_; have GW120 := n2_; have GE120 := n3_; clear n0_ n1_ n2_ n3_; clear hb hbox hg; have hcz65_0 : w64.cell? ⟨gb120, 0, none⟩ = some (.int .i64 a0_0) := (blk_cell BK120.out 0).trans rfl; have hcz65_1 : w64.cell? ⟨gb120, 1, none⟩ = some (.int .i64 a0_1) := (blk_cell BK120.out 1).trans rfl; have hcz65_2 : w64.cell? ⟨gb120, 2, none⟩ = some (.int .i64 a0_2) := (blk_cell BK120.out 2).trans rfl; have hcz65_3 : w64.cell? ⟨gb120, 3, none⟩ = some (.int .i64 a0_3) := (blk_cell BK120.out 3).trans rfl; have hcz65_4 : w64.cell? ⟨gb120, 4, none⟩ = some (.int .i64 a0_4) := (blk_cell BK120.out 4).trans rfl; have hfz65_0 := blk_frozen BK120.out 0; have hfz65_1 := blk_frozen BK120.out 1; have hfz65_2 := blk_frozen BK120.out 2; have hfz65_3 := blk_frozen BK120.out 3; have hfz65_4 := blk_frozen BK120.out 4) | ((with_reducible refine gate_callee (f := 61) rfl ?_); refine goesL_ (some 6) rfl rfl Tryd.func61 (by kernel_rfl) rfl #[.int .i64 a0_2] rfl (by (try simp only [List.map_toArray, List.map_cons, List.map_nil]); first | done | rfl | (simp only [List.length_drop, List.length_take]; rfl)) ?_; (with_reducible refine (earshotref12_May.calls a0_2 t121 _ A2.out).mono ?_); rintro e w' ⟨rfl, ⟨nd, rfl⟩⟩; refine ⟨_, rfl, ?_⟩))
          go_ret
          exact ⟨by first | rfl | (simp [errW_none, errW_some] <;> rfl) | (simp [*, errW_none, errW_some] <;> rfl), by repeat (first | (with_reducible first | exact HB.out | apply below_alloc | apply pw_below_drewN | apply below_drew1 | refine below_set ?_ GE120.out) | exact HB.out)⟩
      · rw [if_neg c45] at H
        have c45b0 : (a0_0 == 64) = false := beq_eq_false_iff_ne.mpr c45
        have c45b1 : (a0_0 != 64) = true := bne_iff_ne.mpr c45
        obtain rfl := Option.some.inj H
        go_enter Tryd.func26, Tryd.ntmps26
        go_wp2_with (first | ((with_reducible refine gate_dst (N := 1) rfl ?_); refine box_event ?hg (N := 1) ?hd (cs := #[.int .i64 a0_0, .int .i64 a0_1, .int .i64 a0_2, .int .i64 a0_3, .int .i64 a0_4]) (t := 39) ?hr ?_; (case hd => rfl); (case hg => first | rfl | exact wanted_on rfl rfl rfl (by first | assumption | rfl | (simp [*]; done))); (case hr => first | (go_simp; done) | (go_simp; rfl)); intro gb120 hg w66 hbox hb; have n0_ := Aside0.mk (below_step (by repeat (first | (with_reducible first | exact HB.out | apply below_alloc | apply pw_below_drewN | apply below_drew1) | exact HB.out)) hb); have n1_ := Aside0.mk (hbox); have n2_ := Aside0.mk ((by rw [hg]; exact (below_size (by repeat (first | (with_reducible first | exact HB.out | apply below_alloc | apply pw_below_drewN | apply below_drew1) | exact HB.out))) : w.heap.size ≤ gb120)); have n3_ := Aside0.mk ((by rw [hg]; exact (below_size (by repeat (first | (with_reducible first | exact HB.out | apply below_alloc | apply pw_below_drewN | apply below_drew1) | exact HB.out))) : w.heap.size ≤ gb120)); clear HB; have HB := n0_; have BK120 := n1_; have GW120 := n2_; have GE120 := n3_; clear n0_ n1_ n2_ n3_; clear hb hbox hg; have hcz67_0 : w66.cell? ⟨gb120, 0, none⟩ = some (.int .i64 a0_0) := (blk_cell BK120.out 0).trans rfl; have hcz67_1 : w66.cell? ⟨gb120, 1, none⟩ = some (.int .i64 a0_1) := (blk_cell BK120.out 1).trans rfl; have hcz67_2 : w66.cell? ⟨gb120, 2, none⟩ = some (.int .i64 a0_2) := (blk_cell BK120.out 2).trans rfl; have hcz67_3 : w66.cell? ⟨gb120, 3, none⟩ = some (.int .i64 a0_3) := (blk_cell BK120.out 3).trans rfl; have hcz67_4 : w66.cell? ⟨gb120, 4, none⟩ = some (.int .i64 a0_4) := (blk_cell BK120.out 4).trans rfl; have hfz67_0 := blk_frozen BK120.out 0; have hfz67_1 := blk_frozen BK120.out 1; have hfz67_2 := blk_frozen BK120.out 2; have hfz67_3 := blk_frozen BK120.out 3; have hfz67_4 := blk_frozen BK120.out 4) | ((with_reducible refine gate_callee (f := 61) rfl ?_); refine goesL_ (some 6) rfl rfl Tryd.func61 (by kernel_rfl) rfl #[.int .i64 a0_2] rfl (by (try simp only [List.map_toArray, List.map_cons, List.map_nil]); first | done | rfl | (simp only [List.length_drop, List.length_take]; rfl)) ?_; (with_reducible refine (earshotref12_May.calls a0_2 t121 _ A2.out).mono ?_); rintro e w' ⟨rfl, ⟨nd, rfl⟩⟩; refine ⟨_, rfl, ?_⟩))
        go_ret
        exact ⟨by first | rfl | (simp [errW_none, errW_some] <;> rfl) | (simp [*, errW_none, errW_some] <;> rfl), by repeat (first | (with_reducible first | exact HB.out | apply below_alloc | apply pw_below_drewN | apply below_drew1 | refine below_set ?_ GE120.out) | exact HB.out)⟩

-- NOT PRINTED: function 35 (front_Stream_Reset)

-- NOT PRINTED: function 36 (front_Stream_Tail)

-- NOT PRINTED: function 38 (front_Stream_Set)

/-! ### earshotlaw13_FrontNil: function 13 -/
-- PURE intros; unfold earshotlaw13_FrontNil.f; rw [if_pos]; simp only [Bool.and_eq_true, decide_eq_true_eq]; apply wf_i64; assumption
def earshotlaw13_FrontNil.f (a0_0 a0_1 a0_2 a0_3 a0_4 : Int) (a1 : Int) : Option (Bool) := if decide (-9223372036854775808 ≤ a1) && decide (a1 ≤ 9223372036854775807) then some true else none
theorem ref_right (s h b c p : Int) : earshotref13_Right.f s h b c p = some (rightB s h b c p) := by
  have hm : earshotref12_May.f b = some (mayB b.toNat) := by
    unfold earshotref12_May.f mayB
    by_cases h1 : b = 4
    · subst h1; rfl
    · by_cases h2 : b = 8
      · subst h2; rfl
      · rw [if_neg h1, if_neg h2]
        have e1 : (b.toNat == 4) = false := by simp; omega
        have e2 : (b.toNat == 8) = false := by simp; omega
        have e3 : (b.toNat == 16) = (b == 16) := by
          by_cases h3 : b = 16
          · subst h3; rfl
          · have a1 : (b == 16) = false := by simp [h3]
            have a2 : (b.toNat == 16) = false := by simp; omega
            rw [a1, a2]
        rw [e1, e2, e3]; rfl
  unfold earshotref13_Right.f rightB sizeB
  rw [hm]
  show (if s = 16 then _ else _) = _
  generalize mayB b.toNat = m
  have fin : ∀ P : Prop, [Decidable P] → (if h ≥ 1 then (if h ≤ s then (if m = true then (if c ≥ 1 then (if c ≤ b then (if p ≥ 0 then (some (decide (p ≤ 32767))) else (some false)) else (some false)) else (some false)) else (some false)) else (some false)) else (some false)) = some (decide (1 ≤ h) && decide (h ≤ s) && m && decide (1 ≤ c) && decide (c ≤ b) && decide (0 ≤ p) && decide (p < 32768)) := by
    intro _ _
    have e : decide (p ≤ 32767) = decide (p < 32768) := by by_cases hp : p ≤ 32767 <;> simp [hp] <;> omega
    rw [e]
    by_cases k1 : 1 ≤ h
    · rw [if_pos k1, decide_eq_true k1]
      by_cases k2 : h ≤ s
      · rw [if_pos k2, decide_eq_true k2]
        cases m
        · simp
        · rw [if_pos rfl]
          by_cases k3 : 1 ≤ c
          · rw [if_pos k3, decide_eq_true k3]
            by_cases k4 : c ≤ b
            · rw [if_pos k4, decide_eq_true k4]
              by_cases k5 : 0 ≤ p
              · rw [if_pos k5, decide_eq_true k5]; simp
              · rw [if_neg k5, decide_eq_false k5]; simp
            · rw [if_neg k4, decide_eq_false k4]; simp
          · rw [if_neg k3, decide_eq_false k3]; simp
      · rw [if_neg k2, decide_eq_false k2]; simp
    · rw [if_neg k1, decide_eq_false k1]; simp
  by_cases s1 : s = 16
  · rw [if_pos s1, fin True]; simp [s1]
  · rw [if_neg s1]
    by_cases s2 : s = 32
    · rw [if_pos s2, fin True]; simp [s2]
    · rw [if_neg s2]
      by_cases s3 : s = 64
      · first | (rw [if_pos s3, fin True]; simp [s3]) | (rw [if_pos (by simp [s3]), fin True]; simp [s3])
      · first | (rw [if_neg s3]; simp [s1, s2, s3]) | (rw [if_neg (by simp [s3])]; simp [s1, s2, s3])
theorem push_few (w : World) (HG : GlobA w) (A : Option Addr) (c n g : Nat) (cnt last cn ls : Int) (rest xs R0 : List Int) (v : Value) (W : World) (hb : Below w.heap.size w W) (hs : StrAt W g w.heap.size 16 3 4 1 9 cnt last v rest) (hl : xs.length = n) (hC : (Kd.int .i64).C W A n xs) (hA : ∀ ad, A = some ad → 0 < n → ad.block ≠ g ∧ some ad.block ≠ v.ownBlock)
    (hx : xs.any badPU = false) (hlast : -32768 ≤ last ∧ last ≤ 32767) (hn : n ≤ 4) (hr : rest.length + n ≤ 8) (hc0 : 0 ≤ cnt) (hc1 : cnt ≤ 100) (hR : rest ++ flatL 9 last xs = R0) (hcn : cnt + (n : Int) = cn) (hls : lastL last xs = ls) (kb : Nat) (csb : Array Value) (BX : W.heap[kb]? = some (.cells csb 39 (0, 0))) :
    Calls Tryd.prog 31 #[.pointer (some ⟨g, 0, none⟩), .slice A n c] W fun e w' => ∃ A1 n1 c1 v2, e = .returned (.tuple #[.slice A1 n1 c1, .int .i64 0]) ∧ Aside0 (StrAt w' g w.heap.size 16 3 4 1 9 cn ls v2 R0) ∧ Aside0 (Below w.heap.size w w') ∧ Aside0 (w'.heap[kb]? = some (.cells csb 39 (0, 0))) := by
  have hl0 : R0.length = rest.length + n := by rw [← hR, List.length_append, flatL_length, hl]
  have hcut := cutN_no 16 3 4 1 9 (R0.length + 1) R0 (by show R0.length < 16; omega)
  have H := push_go A c n g w.heap.size 16 3 16 3 4 1 9 cnt last cn ls rest xs R0 R0 [] v W (HG.below hb) HG.1 hb.size hs hl hC hA hx hlast (by omega) rfl (by omega) rfl (by omega) (by omega) (by omega) (by omega) (by omega) hc0 (by omega) hR (by rw [hcut]) (by rw [hcut]) hcn hls
  refine H.mono ?_
  rintro e_ w2 ⟨vo, v2, rfl, hS2, hO2, hK2, hv2⟩
  obtain ⟨A1, c1, hvo, _, _⟩ := Kd.R_reads hO2
  subst hvo
  refine ⟨A1, _, c1, v2, rfl, ⟨hS2⟩, ⟨keeps_step hb hs hK2⟩, ⟨hK2.blk BX (blk_ne BX hs.1 (by decide)) (fun e => ?_)⟩⟩
  obtain ⟨inner, ho⟩ := Kd.R_own hs.2.2
  obtain ⟨cells, hc⟩ := own_typed ho kb e.symm
  exact blk_ne hc BX (by decide) rfl
set_option maxHeartbeats 32000000 in
set_option maxRecDepth 100000 in
theorem nil_go (s h b c p x : Int) (w : World) (hG : GlobA w) : Calls Tryd.prog 13 #[.agg #[.int .i64 s, .int .i64 h, .int .i64 b, .int .i64 c, .int .i64 p], .int .i64 x] w fun e w' => e = .returned (.bool true) ∧ Below w.heap.size w w' := by
  obtain ⟨rb, hrb⟩ : ∃ r, rightB s h b c p = r := ⟨_, rfl⟩
  have hw0 : 1 ≤ w.heap.size := hG.1
  have HG0 := Aside0.mk hG
  have HN0 : Aside0 (∀ W : World, GlobA W → Calls Tryd.prog 30 #[.agg #[.int .i64 16, .int .i64 3, .int .i64 4, .int .i64 1, .int .i64 9]] W fun e w' => ∃ g, e = .returned (.pointer (some ⟨g, 0, none⟩)) ∧ W.heap.size ≤ g ∧ w'.heap[g]? = some (.cells (strC 16 3 4 1 9 0 0 (.slice none 0 0)) 86 (0, 0)) ∧ Below W.heap.size W w') := ⟨fun W hg => new_yes 16 3 4 1 9 W hg (by decide)⟩
  have HNY : Aside0 (rb = true → ∀ W : World, GlobA W → Calls Tryd.prog 30 #[.agg #[.int .i64 s, .int .i64 h, .int .i64 b, .int .i64 c, .int .i64 p]] W fun e w' => ∃ g, e = .returned (.pointer (some ⟨g, 0, none⟩)) ∧ Below W.heap.size W w') := ⟨fun hb W hg => (new_yes s h b c p W hg (by rw [hrb, hb])).mono fun e w' ⟨g, a, _, _, q⟩ => ⟨g, a, q⟩⟩
  have HNN : Aside0 (rb = false → ∀ W : World, GlobA W → Calls Tryd.prog 30 #[.agg #[.int .i64 s, .int .i64 h, .int .i64 b, .int .i64 c, .int .i64 p]] W fun e w' => e = .returned (.pointer none) ∧ Below W.heap.size W w') := ⟨fun hb W hg => new_no s h b c p W hg (by rw [hrb, hb])⟩
  have HRR : Aside0 (earshotref13_Right.f s h b c p = some rb) := ⟨by rw [ref_right, hrb]⟩
  have HP1 : Aside0 (∀ (g : Nat) (W : World), Below w.heap.size w W → StrAt W g w.heap.size 16 3 4 1 9 0 0 (.slice none 0 0) [] → W.heap[w.heap.size]? = some (.cells #[.int .i64 s, .int .i64 h, .int .i64 b, .int .i64 c, .int .i64 p] 39 (0, 0)) → Calls Tryd.prog 31 #[.pointer (some ⟨g, 0, none⟩), .slice (some ⟨W.heap.size, 0, none⟩) 2 2] (W.alloc (.cells #[.int .i64 1, .int .i64 2] 3)) fun e w' => ∃ A1 n1 c1 v2, e = .returned (.tuple #[.slice A1 n1 c1, .int .i64 0]) ∧ Aside0 (StrAt w' g w.heap.size 16 3 4 1 9 2 2 v2 [1, 2]) ∧ Aside0 (Below w.heap.size w w') ∧ Aside0 (w'.heap[w.heap.size]? = some (.cells #[.int .i64 s, .int .i64 h, .int .i64 b, .int .i64 c, .int .i64 p] 39 (0, 0)))) := ⟨fun g W hb hs hbx => by
    have ha := below_alloc (Below.refl W.heap.size W) (.cells #[.int .i64 1, .int .i64 2] 3)
    exact push_few w HG0.out (some ⟨W.heap.size, 0, none⟩) 2 2 g 0 0 2 2 [] [1, 2] [1, 2] (.slice none 0 0) _ (hb.trans (ha.mono hb.size)) (hs.below ha) rfl (lit_c W [1, 2]) (far_new (W := W) (v := .slice none 0 0) (blk_lt hs.1) (fun k hk => by simp [Value.ownBlock] at hk) 2) (by decide +kernel) (by omega) (by omega) (by decide) (by omega) (by omega) (by decide +kernel) rfl rfl _ _ (blk_below hbx ha)⟩
  have HP2 : Aside0 (∀ (g : Nat) (W : World) (v : Value), badPU x = false → Below w.heap.size w W → StrAt W g w.heap.size 16 3 4 1 9 2 2 v [1, 2] → W.heap[w.heap.size]? = some (.cells #[.int .i64 s, .int .i64 h, .int .i64 b, .int .i64 c, .int .i64 p] 39 (0, 0)) → Calls Tryd.prog 31 #[.pointer (some ⟨g, 0, none⟩), .slice (some ⟨W.heap.size, 0, none⟩) 2 2] (W.alloc (.cells #[.int .i64 3, .int .i64 x] 3)) fun e w' => ∃ A1 n1 c1 v2, e = .returned (.tuple #[.slice A1 n1 c1, .int .i64 0]) ∧ Aside0 (StrAt w' g w.heap.size 16 3 4 1 9 4 x v2 ([1, 2] ++ flatL 9 2 [3, x])) ∧ Aside0 (Below w.heap.size w w') ∧ Aside0 (w'.heap[w.heap.size]? = some (.cells #[.int .i64 s, .int .i64 h, .int .i64 b, .int .i64 c, .int .i64 p] 39 (0, 0)))) := ⟨fun g W v hx hb hs hbx => by
    have ha := below_alloc (Below.refl W.heap.size W) (.cells #[.int .i64 3, .int .i64 x] 3)
    have hany : ([3, x] : List Int).any badPU = false := by simp [List.any_cons, hx]; decide
    exact push_few w HG0.out (some ⟨W.heap.size, 0, none⟩) 2 2 g 2 2 4 x [1, 2] [3, x] _ v _ (hb.trans (ha.mono hb.size)) (hs.below ha) rfl (lit_c W [3, x] (by simp)) (far_new (W := W) (v := v) (blk_lt hs.1) (fun k hk => (hs.ne k hk).2.2) 2) hany (by omega) (by omega) (by decide) (by omega) (by omega) rfl rfl rfl _ _ (blk_below hbx ha)⟩
  have HP3 : Aside0 (∀ (g : Nat) (W : World), badPU x = true → Calls Tryd.prog 31 #[.pointer (some ⟨g, 0, none⟩), .slice (some ⟨W.heap.size, 0, none⟩) 2 2] (W.alloc (.cells #[.int .i64 3, .int .i64 x] 3)) fun e w' => e = .returned (.tuple #[.slice none 0 0, .int .i64 16]) ∧ Aside0 (Below W.heap.size W w')) := ⟨fun g W hx => by
    have ha := below_alloc (Below.refl W.heap.size W) (.cells #[.int .i64 3, .int .i64 x] 3)
    have hany : ([3, x] : List Int).any badPU = true := by simp [List.any_cons, hx]
    exact (push_bad (some ⟨W.heap.size, 0, none⟩) 2 2 g [3, x] _ rfl (lit_c W [3, x] (by simp)) hany).mono fun e w' ⟨a, q⟩ => ⟨a, ⟨below_then ha ha.size q⟩⟩⟩
  have hway : badPU x = false ∧ decide (-32768 ≤ x) = true ∧ decide (x ≤ 32767) = true ∨ badPU x = true ∧ decide (-32768 ≤ x) = false ∨ badPU x = true ∧ decide (-32768 ≤ x) = true ∧ decide (x ≤ 32767) = false := by
    unfold badPU
    by_cases h1 : -32768 ≤ x
    · by_cases h2 : x ≤ 32767
      · exact .inl ⟨by simp; omega, decide_eq_true h1, decide_eq_true h2⟩
      · exact .inr (.inr ⟨by simp; omega, decide_eq_true h1, decide_eq_false h2⟩)
    · exact .inr (.inl ⟨by simp; omega, decide_eq_false h1⟩)
  have hu49 := Tryd.underlying49
  have hu39 := Tryd.underlying39
  have hu60 := Tryd.underlying60
  have hfd0 : ∀ w : World, (Instr.field 60 (.agg #[.int .i64 0, .int .i64 0, .slice none 0 0]) 0).run Tryd.prog w = .ok (.int .i64 0) w := fun _ => by kernel_rfl
  have hfd2 : ∀ w : World, (Instr.field 60 (.agg #[.int .i64 0, .int .i64 0, .slice none 0 0]) 2).run Tryd.prog w = .ok (.slice none 0 0) w := fun _ => by kernel_rfl
  clear hG hrb
  cases rb
  case' false => have HNF := Aside0.mk (HNN.out rfl)
  case' true => have HNT := Aside0.mk (HNY.out rfl)
  all_goals
    clear HNN HNY
    rcases hway with ⟨x0, x1, x2⟩ | ⟨x0, x1⟩ | ⟨x0, x1, x2⟩
    all_goals
      have X0 := Aside0.mk x0
      clear x0
      have ST0 : True := trivial
      go_enter Tryd.func13, Tryd.ntmps13
      go_wp2_with (first
        | ((with_reducible refine gate_dst (N := 2) rfl ?_); refine box_event ?hg (N := 2) ?hd (cs := #[.int .i64 s, .int .i64 h, .int .i64 b, .int .i64 c, .int .i64 p]) (t := 39) ?hr ?_; (case hd => rfl); (case hg => first | rfl | exact wanted_on rfl rfl rfl (by first | assumption | rfl | (simp [*]; done))); (case hr => first | (go_simp; done) | (go_simp; rfl)); intro gb hgb wb hbox hb; subst hgb; have BK := Aside0.mk hbox; have HB := Aside0.mk hb; clear ST0 hbox hb; have ST1 : True := trivial)
        | (go_at_call 31; clear ST1; (with_reducible refine (push_nil _ _).mono ?_); rintro e_ w1 ⟨rfl, B1⟩; have hb := below_then (show Below wb.heap.size wb _ by repeat (first | exact Below.refl _ _ | apply below_alloc | apply pw_below_drewN)) (by simp) B1; have BK1 := Aside0.mk (blk_below BK.out hb); have HB1 := Aside0.mk (below_step HB.out hb); clear hb B1 BK HB; have ST2 : True := trivial)
        | (go_at_call 35; clear ST2; (with_reducible refine (reset_nil _).mono ?_); rintro e_ w2 ⟨rfl, B1⟩; have BK2 := Aside0.mk (blk_below BK1.out B1); have HB2 := Aside0.mk (below_step HB1.out B1); clear B1 BK1 HB1; have ST3 : True := trivial)
        | (go_at_call 30; clear ST3; (with_reducible refine (HN0.out _ (HG0.out.below HB2.out)).mono ?_); rintro e_ w3 ⟨g, rfl, hg, hbk, B1⟩; have BK3 := Aside0.mk (blk_below BK2.out B1); have HB3 := Aside0.mk (below_step HB2.out B1); have HS3 : Aside0 (StrAt w3 g w.heap.size 16 3 4 1 9 0 0 (.slice none 0 0) []) := ⟨StrAt.new hbk (Nat.le_trans HB2.out.size hg)⟩; clear B1 BK2 HB2 hbk hg; have ST4 : True := trivial)
        | (go_at_call 31; clear ST4; (with_reducible refine (HP1.out g w3 HB3.out HS3.out BK3.out).mono ?_); rintro e_ w4 ⟨A1, n1, c1, v2, rfl, HS4, HB4, BK4⟩; clear HS3 HB3 BK3; have ST5 : True := trivial)
        | (go_at_call 31; clear ST5; (with_reducible refine (HP2.out g w4 v2 X0.out HB4.out HS4.out BK4.out).mono ?_); rintro e_ w5 ⟨A2, n2, c2, v3, rfl, HS5, HB5, BK5⟩; clear HS4 HB4 BK4; have q0c := blk_cell BK5.out 0; have q1c := blk_cell BK5.out 1; have q2c := blk_cell BK5.out 2; have q3c := blk_cell BK5.out 3; have q4c := blk_cell BK5.out 4; have ST6 : True := trivial)
        | (go_at_call 31; clear ST5; (with_reducible refine (HP3.out g w4 X0.out).mono ?_); rintro e_ w5 ⟨rfl, B1⟩; have BK5 := Aside0.mk (blk_below BK4.out B1.out); have HB5 := Aside0.mk (below_step HB4.out B1.out); have HS5 := Aside0.mk (HS4.out.below B1.out); clear B1 BK4 HB4 HS4; have q0c := blk_cell BK5.out 0; have q1c := blk_cell BK5.out 1; have q2c := blk_cell BK5.out 2; have q3c := blk_cell BK5.out 3; have q4c := blk_cell BK5.out 4; have ST6 : True := trivial)
        | (go_at_call 26; clear ST6; (with_reducible refine (earshotref13_Right.calls _ _ _ _ _ _ _ HRR.out).mono ?_); rintro e_ w6 ⟨rfl, B1⟩; have BK6 := Aside0.mk (blk_below BK5.out B1); have HB6 := Aside0.mk (below_step HB5.out B1); have HS6 := Aside0.mk (HS5.out.below B1); clear B1 BK5 HB5 HS5 q0c q1c q2c q3c q4c; have ST7 : True := trivial)
        | (go_at_call 22; clear ST7; (with_reducible refine (awake_go _ (HG0.out.below HB6.out)).mono ?_); rintro e_ w7 ⟨rfl, B1⟩; have BK7 := Aside0.mk (blk_below BK6.out B1); have HB7 := Aside0.mk (below_step HB6.out B1); have HS7 := Aside0.mk (HS6.out.below B1); clear B1 BK6 HB6 HS6; have ST8 : True := trivial)
        | (go_at_call 33; clear ST8; (with_reducible refine (count_nil _).mono ?_); rintro e_ w8 ⟨rfl, B1⟩; have BK8 := Aside0.mk (blk_below BK7.out B1); have HB8 := Aside0.mk (below_step HB7.out B1); have HS8 := Aside0.mk (HS7.out.below B1); clear B1 BK7 HB7 HS7; have ST9 : True := trivial)
        | (go_at_call 36; clear ST9; (with_reducible refine (tail_nil _).mono ?_); rintro e_ w9 ⟨rfl, B1⟩; have BK9 := Aside0.mk (blk_below BK8.out B1); have HB9 := Aside0.mk (below_step HB8.out B1); have HS9 := Aside0.mk (HS8.out.below B1); clear B1 BK8 HB8 HS8; have ST10 : True := trivial)
        | (go_at_call 36; clear ST10; (with_reducible refine (tail_nil _).mono ?_); rintro e_ w10 ⟨rfl, B1⟩; have BK10 := Aside0.mk (blk_below BK9.out B1); have HB10 := Aside0.mk (below_step HB9.out B1); have HS10 := Aside0.mk (HS9.out.below B1); clear B1 BK9 HB9 HS9; have ST11 : True := trivial)
        | (go_at_call 38; clear ST11; (with_reducible refine (set_nil _ _ _).mono ?_); rintro e_ w11 ⟨rfl, B1⟩; have BK11 := Aside0.mk (blk_below BK10.out B1); have HB11 := Aside0.mk (below_step HB10.out B1); have HS11 := Aside0.mk (HS10.out.below B1); clear B1 BK10 HB10 HS10; have q0c := blk_cell BK11.out 0; have q1c := blk_cell BK11.out 1; have q2c := blk_cell BK11.out 2; have q3c := blk_cell BK11.out 3; have q4c := blk_cell BK11.out 4; have ST12 : True := trivial)
        | (go_at_call 30; clear ST12; (with_reducible refine (HNT.out _ (HG0.out.below HB11.out)).mono ?_); rintro e_ w12 ⟨g2, rfl, B1⟩; have HB12 := Aside0.mk (below_step HB11.out B1); have HS12 := Aside0.mk (HS11.out.below B1); clear B1 BK11 HB11 HS11 q0c q1c q2c q3c q4c; have ST13 : True := trivial)
        | (go_at_call 30; clear ST12; (with_reducible refine (HNF.out _ (HG0.out.below HB11.out)).mono ?_); rintro e_ w12 ⟨rfl, B1⟩; have HB12 := Aside0.mk (below_step HB11.out B1); have HS12 := Aside0.mk (HS11.out.below B1); clear B1 BK11 HB11 HS11 q0c q1c q2c q3c q4c; have ST13 : True := trivial)
        | (go_at_call 33; clear ST13; have hq12 := HS12.out.1; refine (count_go g _ _ _ _ _ _ _ _ _ hq12).mono ?_; rintro e_ w13 ⟨rfl, B1⟩; have HB13 := Aside0.mk (below_step HB12.out B1); clear B1)
        | (have hb_ := HB13.out; clear hb_; exfalso; rename_i hun_ hbb_; have hun_ := Option.some.inj hun_; cases hun_))
      all_goals
        go_ret
        exact ⟨rfl, HB13.out⟩
theorem earshotlaw13_FrontNil.calls (a0_0 a0_1 a0_2 a0_3 a0_4 : Int) (a1 : Int) (r : Bool) (w : World) (hG : GlobA w) (h : earshotlaw13_FrontNil.f a0_0 a0_1 a0_2 a0_3 a0_4 a1 = some r) :
    Calls Tryd.prog 13 #[.agg #[.int .i64 a0_0, .int .i64 a0_1, .int .i64 a0_2, .int .i64 a0_3, .int .i64 a0_4], .int .i64 a1] w fun e w' => e = .returned (.bool r) ∧ Below w.heap.size w w' := by
  unfold earshotlaw13_FrontNil.f at h
  split at h
  case isFalse => cases h
  obtain rfl := Option.some.inj h
  exact nil_go _ _ _ _ _ _ w hG

/-- THE ONE PURE STATEMENT of earshotlaw13_FrontNil: yours. -/
def earshotlaw13_FrontNil.Pure : Prop := ∀ (a0_0 : Int) (a0_1 : Int) (a0_2 : Int) (a0_3 : Int) (a0_4 : Int) (a1 : Int), (Lit.int .i64 a0_0).wf = true → (Lit.int .i64 a0_1).wf = true → (Lit.int .i64 a0_2).wf = true → (Lit.int .i64 a0_3).wf = true → (Lit.int .i64 a0_4).wf = true → (Lit.int .i64 a1).wf = true → earshotlaw13_FrontNil.f a0_0 a0_1 a0_2 a0_3 a0_4 a1 = some true
theorem earshotlaw13_FrontNil.walk (P : earshotlaw13_FrontNil.Pure) (a0_0 : Int) (a0_1 : Int) (a0_2 : Int) (a0_3 : Int) (a0_4 : Int) (a1 : Int) (w : World) (w0_0 : (Lit.int .i64 a0_0).wf = true) (w0_1 : (Lit.int .i64 a0_1).wf = true) (w0_2 : (Lit.int .i64 a0_2).wf = true) (w0_3 : (Lit.int .i64 a0_3).wf = true) (w0_4 : (Lit.int .i64 a0_4).wf = true) (w1 : (Lit.int .i64 a1).wf = true) (hG : GlobA w) :
    Calls Tryd.prog 13 #[.agg #[.int .i64 a0_0, .int .i64 a0_1, .int .i64 a0_2, .int .i64 a0_3, .int .i64 a0_4], .int .i64 a1] w fun e w' => e = .returned (.bool true) ∧ Below w.heap.size w w' := by
  have h := P a0_0 a0_1 a0_2 a0_3 a0_4 a1 w0_0 w0_1 w0_2 w0_3 w0_4 w1
  refine (earshotlaw13_FrontNil.calls a0_0 a0_1 a0_2 a0_3 a0_4 a1 true w hG h).mono ?_
  rintro e w' ⟨rfl, hd⟩
  exact ⟨rfl, hd⟩

end Go.Proofs.YtmhacdnnnebpdaaDoor.PFrontNil
