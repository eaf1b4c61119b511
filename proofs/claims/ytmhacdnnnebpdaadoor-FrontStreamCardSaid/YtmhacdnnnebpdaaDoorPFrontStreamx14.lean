-- Written by a program of this work (wip/tools) for this claim; Lean checks it.
import Derived.Test.YtmhacdnnnebpdaaDoorPFrontStreamx13
namespace Go.Proofs.YtmhacdnnnebpdaaDoor.PFrontStream
open Go.RowKit Go.Proofs.YtmhacdnnnebpdaaDoorW.PrintWords Go.Proofs.YtmhacdnnnebpdaaDoorW.PrintLast Go.Proofs.YtmhacdnnnebpdaaDoorW.PrintMore
attribute [local go_sem] max2_int min2_int max_two min_two max_three min_three max_four min_four   -- for this text's walks alone
set_option linter.unusedVariables false
set_option linter.unusedSimpArgs false
mutual
def earshotref10_Bins.l0 : Nat → List Int → Int → Int → List Int → List Int → Int → Option (List Int × List Int × Int)
 | 0, _, _, _, _, _, _ => none
 | k + 1, x0, x3, x6, x195000, x195001, x195002 => if x6 ≤ (wrap64 (Int.tdiv x3 2)) then ((earshotref10_Sum.f x6 x0).bind fun t195 => ((earshotref09_Real.f k t195).bind fun t198 => (if x195000.length < 17592186044416 then ((earshotref09_Imag.f k t195).bind fun t202 => (if x195001.length < 17592186044416 then (earshotref10_Bins.l0 k x0 x3 (wrap64 (x6 + 1)) (x195000 ++ [t198]) (x195001 ++ [t202]) x195002) else (none))) else (none)))) else ((some (([] : List Int) : List Int)).bind fun y206 => (if y206.length + x195000.length < 17592186044416 then ((some (y206 ++ x195000 : List Int)).bind fun y209 => (if y209.length + x195001.length < 17592186044416 then ((earshotref03_Norm.f k (y209 ++ x195001)).bind fun t215 => (if t215 > 15 then (earshotref10_Bins.j1 k x3 x195000 x195001 (wrap64 (t215 - 15))) else (earshotref10_Bins.j1 k x3 x195000 x195001 x195002))) else (none))) else (none)))
def earshotref10_Bins.j1 : Nat → Int → List Int → List Int → Int → Option (List Int × List Int × Int)
 | 0, _, _, _, _ => none
 | k + 1, x3, x195000, x195001, x195002 => earshotref10_Bins.l1 k x3 0 x195000 x195001 x195002
def earshotref10_Bins.l1 : Nat → Int → Int → List Int → List Int → Int → Option (List Int × List Int × Int)
 | 0, _, _, _, _, _ => none
 | k + 1, x3, x9, x195000, x195001, x195002 => if x9 ≤ (wrap64 (Int.tdiv x3 2)) then (if 0 ≤ x9 then (if x9 < (x195000.length : Int) then ((earshotref02_Half.f k (rd x195000 x9) x195002).bind fun t217 => (if x9 < (x195001.length : Int) then ((earshotref02_Half.f k (rd x195001 x9) x195002).bind fun t220 => (earshotref10_Bins.l1 k x3 (wrap64 (x9 + 1)) (x195000.set (x9 : Int).toNat t217) (x195001.set (x9 : Int).toNat t220) x195002)) else (none))) else (none)) else (none)) else (some (x195000, x195001, x195002))
end
def earshotref10_Bins.f (k : Nat) (l0 : List Int) : Option (List Int × List Int × Int) := (earshotref10_May.f (l0.length : Int)).bind fun t193 => (if t193 = true then (earshotref10_Bins.l0 k l0 (l0.length : Int) 0 ([] : List Int) ([] : List Int) 0) else (some (([] : List Int), ([] : List Int), 0)))
def earshotref10_Bins.T10 : Bool × List (List Nat × List Nat) := (true, [([], []), ([0], [0]), ([], []), ([2], [2]), ([3], [3]), ([1, 4, 3], [1, 4]), ([0, 1, 2, 3, 4, 5], []), ([6, 5, 5, 0, 1, 2, 3, 4, 5], [5, 6])])
def earshotref10_Bins.B10 : List Nat := [0, 1, 0, 4, 12, 31, 63, 127]
theorem earshotref10_Bins.tab10 : rtab .any (opsOf Tryd.f57 10) = earshotref10_Bins.T10 := by kernel_rfl
theorem earshotref10_Bins.bits10 : waitsOk earshotref10_Bins.T10.2 earshotref10_Bins.B10 = true := by kernel_rfl
def earshotref10_Bins.T11 : Bool × List (List Nat × List Nat) := (true, [([], []), ([0], [0]), ([], []), ([2], [2]), ([3], [3]), ([1, 4, 3], [1, 4]), ([0, 1, 2, 3, 4, 5], []), ([6, 5, 5, 0, 1, 2, 3, 4, 5], [5, 6])])
def earshotref10_Bins.B11 : List Nat := [0, 1, 0, 4, 12, 31, 63, 127]
theorem earshotref10_Bins.tab11 : rtab .any (opsOf Tryd.f57 11) = earshotref10_Bins.T11 := by kernel_rfl
theorem earshotref10_Bins.bits11 : waitsOk earshotref10_Bins.T11.2 earshotref10_Bins.B11 = true := by kernel_rfl
def earshotref10_Bins.T12 : Bool × List (List Nat × List Nat) := (true, [([], []), ([], []), ([1], [1]), ([0, 2], [0, 2]), ([], []), ([4], [4]), ([3, 5, 3], [3, 5]), ([6, 6], [6]), ([7, 7, 0, 1, 2, 3, 4, 5, 6, 7], [7])])
def earshotref10_Bins.B12 : List Nat := [0, 0, 2, 7, 0, 16, 63, 127, 255]
theorem earshotref10_Bins.tab12 : rtab .any (opsOf Tryd.f57 12) = earshotref10_Bins.T12 := by kernel_rfl
theorem earshotref10_Bins.bits12 : waitsOk earshotref10_Bins.T12.2 earshotref10_Bins.B12 = true := by kernel_rfl
def earshotref10_Bins.T18 : Bool × List (List Nat × List Nat) := (true, [([], []), ([0], [0]), ([], []), ([], []), ([3], [3]), ([], []), ([4, 5], [4, 5]), ([6], [6]), ([], []), ([8], [8]), ([7, 9], [7, 9]), ([1, 2, 0, 1, 2, 3, 4, 5, 6, 7, 8, 9, 10], [1, 2]), ([11, 10, 10, 0, 1, 2, 3, 4, 5, 6, 7, 8, 9, 10], [10, 11])])
def earshotref10_Bins.B18 : List Nat := [0, 1, 0, 0, 8, 0, 56, 120, 0, 256, 1016, 2047, 4095]
theorem earshotref10_Bins.tab18 : rtab .any (opsOf Tryd.f57 18) = earshotref10_Bins.T18 := by kernel_rfl
theorem earshotref10_Bins.bits18 : waitsOk earshotref10_Bins.T18.2 earshotref10_Bins.B18 = true := by kernel_rfl
def earshotref10_Bins.T19 : Bool × List (List Nat × List Nat) := (true, [([], []), ([0], [0]), ([], []), ([], []), ([3], [3]), ([], []), ([4, 5], [4, 5]), ([6], [6]), ([], []), ([8], [8]), ([7, 9], [7, 9]), ([1, 2, 0, 1, 2, 3, 4, 5, 6, 7, 8, 9, 10], [1, 2]), ([11, 10, 10, 0, 1, 2, 3, 4, 5, 6, 7, 8, 9, 10], [10, 11])])
def earshotref10_Bins.B19 : List Nat := [0, 1, 0, 0, 8, 0, 56, 120, 0, 256, 1016, 2047, 4095]
theorem earshotref10_Bins.tab19 : rtab .any (opsOf Tryd.f57 19) = earshotref10_Bins.T19 := by kernel_rfl
theorem earshotref10_Bins.bits19 : waitsOk earshotref10_Bins.T19.2 earshotref10_Bins.B19 = true := by kernel_rfl
set_option maxHeartbeats 8000000 in
set_option maxRecDepth 100000 in
theorem earshotref10_Bins.calls (k : Nat) (A0 : Option Addr) (c0 : Nat) (l0 : List Int) (r1 : List Int) (r2 : List Int) (r3 : Int) (w : World) (hr0 : Kd.C (Kd.int .i64) w A0 l0.length l0) (hc0 : l0.length ≤ c0) (h : earshotref10_Bins.f k l0 = some (r1, r2, r3)) :
  Calls Tryd.prog 57 #[.slice A0 l0.length c0] w fun e w' => ∃ v0_ v1_ : Value, e = .returned (.agg #[v0_, v1_, .int .i64 r3]) ∧ Kd.R (Kd.int .i64) 3 w' w.heap.size (fun k_ => some k_ ≠ (v1_ : Value).ownBlock) v0_ r1 ∧ Kd.R (Kd.int .i64) 3 w' w.heap.size (fun k_ => some k_ ≠ (v0_ : Value).ownBlock) v1_ r2 ∧ Below w.heap.size w w' := by
 have hu80 := Tryd.underlying80
 have HR0 := Aside0.mk hr0
 have HC0 := Aside0.mk hc0
 clear hr0 hc0
 have HB := Aside0.mk (Below.refl w.heap.size w)
 have H : ((earshotref10_May.f (l0.length : Int)).bind fun t193 => (if t193 = true then (earshotref10_Bins.l0 k l0 (l0.length : Int) 0 ([] : List Int) ([] : List Int) 0) else (some (([] : List Int), ([] : List Int), 0)))) = some (r1, r2, r3) := h
 clear h
 replace H := Option.bind_eq_some_iff.mp H
 obtain ⟨t193, A20, H⟩ := H
 replace H : (if t193 = true then (earshotref10_Bins.l0 k l0 (l0.length : Int) 0 ([] : List Int) ([] : List Int) 0) else (some (([] : List Int), ([] : List Int), 0))) = some (r1, r2, r3) := H
 have A2 := Aside0.mk A20
 clear A20
 by_cases c3 : t193 = true
 ·
  subst c3
  have H1 : (earshotref10_Bins.l0 k l0 (l0.length : Int) 0 ([] : List Int) ([] : List Int) 0) = some (r1, r2, r3) := by rw [if_pos rfl] at H; exact H
  clear H
  have H := H1
  clear H1
  have H' := Aside0.mk H
  clear H
  go_enter Tryd.func57, Tryd.ntmps57
  go_wp2_with (first | ((with_reducible refine gate_dst (N := 2) rfl ?_); refine box_event ?hg (N := 2) ?hd (cs := #[.slice none 0 0, .slice none 0 0, .int .i64 0]) (t := 80) ?hr ?_; (case hd => rfl); (case hg => first | rfl | exact wanted_on rfl rfl rfl (by first | assumption | rfl | (simp [*]; done))); (case hr => first | (go_simp; done) | (go_simp; rfl)); intro gb192 hg w4 hbox hb; have n0_ := Aside0.mk (below_step (by repeat (first | (with_reducible first | exact HB.out | apply below_alloc | apply pw_below_drewN | apply below_drew1) | exact HB.out)) hb); have n1_ := Aside0.mk (hbox); have n2_ := Aside0.mk ((by rw [hg]; exact (below_size (by repeat (first | (with_reducible first | exact HB.out | apply below_alloc | apply pw_below_drewN | apply below_drew1) | exact HB.out))) : w.heap.size ≤ gb192)); have n3_ := Aside0.mk ((by rw [hg]; exact (below_size (by repeat (first | (with_reducible first | exact HB.out | apply below_alloc | apply pw_below_drewN | apply below_drew1) | exact HB.out))) : w.heap.size ≤ gb192)); clear HB; have HB := n0_; have BK192 := n1_; have GW192 := n2_; have GE192 := n3_; clear n0_ n1_ n2_ n3_; clear hb hbox hg) | ((with_reducible refine gate_callee (f := 87) rfl ?_); refine goesL_ (some 13) rfl rfl Tryd.func87 (by kernel_rfl) rfl #[.int .i64 (l0.length : Int)] rfl (by (try simp only [List.map_toArray, List.map_cons, List.map_nil]); first | done | rfl | (simp only [List.length_drop, List.length_take]; rfl)) ?_; (with_reducible refine (earshotref10_May.calls (l0.length : Int) true _ A2.out).mono ?_); rintro e w' ⟨rfl, ⟨nd, rfl⟩⟩; refine ⟨_, rfl, ?_⟩; (try (rw [drewN_self w4]; generalize hq_ : World.drewN w4 _ = w4; have n0_ : Aside0 (w4.heap[gb192]? = some (.cells #[.slice none 0 0, .slice none 0 0, .int .i64 0] 80 (0, 0))) := ⟨by rw [← hq_]; exact (by (with_reducible repeat (first | refine blk_drewN ?_ _ | refine blk_drew ?_ | refine blk_alloc ?_ _)); exact BK192.out)⟩; have n1_ : Aside0 (Below w.heap.size w w4) := ⟨by rw [← hq_]; exact (by repeat (first | (with_reducible first | exact HB.out | apply below_alloc | apply pw_below_drewN | apply below_drew1 | refine below_set ?_ GE192.out) | exact HB.out))⟩; clear BK192 HB hq_; have BK192 := n0_; have HB := n1_; clear n0_ n1_))) | ((with_reducible refine gate_dst (N := 5) rfl ?_); refine box_event ?hg (N := 5) ?hd (cs := #[.slice none 0 0, .slice none 0 0, .int .i64 0]) (t := 80) ?hr ?_; (case hd => rfl); (case hg => first | rfl | exact wanted_on rfl rfl rfl (by first | assumption | rfl | (simp [*]; done))); (case hr => first | (go_simp; done) | (go_simp; rfl)); intro gb194 hg w5 hbox hb; have n0_ := Aside0.mk (blk_below (g := gb192) (o := .cells #[.slice none 0 0, .slice none 0 0, .int .i64 0] 80 (0, 0)) (by (with_reducible repeat (first | refine blk_drewN ?_ _ | refine blk_drew ?_ | refine blk_alloc ?_ _)); exact BK192.out) hb); have n1_ := Aside0.mk (below_step (by repeat (first | (with_reducible first | exact HB.out | apply below_alloc | apply pw_below_drewN | apply below_drew1 | refine below_set ?_ GE192.out) | exact HB.out)) hb); have n2_ := Aside0.mk (hbox); have n3_ := Aside0.mk ((by rw [hg]; exact (below_size (by repeat (first | (with_reducible first | exact HB.out | apply below_alloc | apply pw_below_drewN | apply below_drew1 | refine below_set ?_ GE192.out) | exact HB.out))) : w.heap.size ≤ gb194)); have n4_ := Aside0.mk ((by rw [hg]; exact (below_size (by repeat (first | (with_reducible first | exact HB.out | apply below_alloc | apply pw_below_drewN | apply below_drew1 | refine below_set ?_ GE192.out) | exact HB.out))) : w.heap.size ≤ gb194)); have n5_ := Aside0.mk ((by rw [hg]; exact Nat.ne_of_lt (blk_lt (g := gb192) (o := .cells #[.slice none 0 0, .slice none 0 0, .int .i64 0] 80 (0, 0)) (by (with_reducible repeat (first | refine blk_drewN ?_ _ | refine blk_drew ?_ | refine blk_alloc ?_ _)); exact BK192.out)) : gb192 ≠ gb194)); have n6_ := Aside0.mk ((by rw [hg]; exact Nat.ne_of_gt (blk_lt (g := gb192) (o := .cells #[.slice none 0 0, .slice none 0 0, .int .i64 0] 80 (0, 0)) (by (with_reducible repeat (first | refine blk_drewN ?_ _ | refine blk_drew ?_ | refine blk_alloc ?_ _)); exact BK192.out)) : gb194 ≠ gb192)); clear BK192; clear HB; have BK192 := n0_; have HB := n1_; have BK194 := n2_; have GW194 := n3_; have GE194 := n4_; have NB192_194 := n5_; have NB194_192 := n6_; clear n0_ n1_ n2_ n3_ n4_ n5_ n6_; clear hb hbox hg; have hnb6 := NB194_192.out; have hnc6 := NB192_194.out; have hcz7_0 : w5.cell? ⟨gb194, 0, none⟩ = some (.slice none 0 0) := (blk_cell BK194.out 0).trans rfl; have hcz7_1 : w5.cell? ⟨gb194, 1, none⟩ = some (.slice none 0 0) := (blk_cell BK194.out 1).trans rfl; have hcz7_2 : w5.cell? ⟨gb194, 2, none⟩ = some (.int .i64 0) := (blk_cell BK194.out 2).trans rfl; have hfz7_0 := blk_frozen BK194.out 0; have hfz7_1 := blk_frozen BK194.out 1; have hfz7_2 := blk_frozen BK194.out 2))
  go_loopg [6] k (fun kq v6 w' => ∃ (x6_1 : Int) (x195000_1 : List Int) (x195001_1 : List Int) (u195000 : Value) (u195001 : Value), v6 = .int .i64 x6_1 ∧ Aside0 (earshotref10_Bins.l0 kq l0 (l0.length : Int) x6_1 x195000_1 x195001_1 0 = some (r1, r2, r3)) ∧ Aside0 (kq ≤ k) ∧ Aside0 (Kd.R (Kd.int .i64) 3 w' w.heap.size (fun k_ => some k_ ≠ (u195001 : Value).ownBlock) u195000 x195000_1) ∧ Aside0 (Kd.R (Kd.int .i64) 3 w' w.heap.size (fun k_ => some k_ ≠ (u195000 : Value).ownBlock) u195001 x195001_1) ∧ Aside0 (w'.heap[gb192]? = some (.cells #[(.slice none 0 0), (.slice none 0 0), .int .i64 0] 80 (0, 0))) ∧ Aside0 (w'.heap[gb194]? = some (.cells #[u195000, u195001, .int .i64 0] 80 (0, 0))) ∧ Aside0 (Below w.heap.size w w'))
  case atStart => exact ⟨(0), (([] : List Int)), (([] : List Int)), (.slice none 0 0), (.slice none 0 0), (by first | rfl | (simp; done) | (simp [*]; done)), H', ⟨Nat.le_refl _⟩, ⟨by first | exact Kd.R_nil _ _ _ _ _ | exact Kd.N_nil _ _ _ _ _ | exact Kd.V_nil _ _ _ _ _ | exact Kd.Q_nil _ _ _ _ _ | exact Kd.S_nil _ _ _ _ _⟩, ⟨by first | exact Kd.R_nil _ _ _ _ _ | exact Kd.N_nil _ _ _ _ _ | exact Kd.V_nil _ _ _ _ _ | exact Kd.Q_nil _ _ _ _ _ | exact Kd.S_nil _ _ _ _ _⟩, ⟨by (with_reducible repeat (first | refine blk_drewN ?_ _ | refine blk_drew ?_ | refine blk_alloc ?_ _)); refine blk_far ?_ NB192_194.out _; (with_reducible repeat (first | refine blk_drewN ?_ _ | refine blk_drew ?_ | refine blk_alloc ?_ _)); refine blk_far ?_ NB192_194.out _; (with_reducible repeat (first | refine blk_drewN ?_ _ | refine blk_drew ?_ | refine blk_alloc ?_ _)); refine blk_far ?_ NB192_194.out _; (with_reducible repeat (first | refine blk_drewN ?_ _ | refine blk_drew ?_ | refine blk_alloc ?_ _)); exact BK192.out⟩, ⟨by (with_reducible repeat (first | refine blk_drewN ?_ _ | refine blk_drew ?_ | refine blk_alloc ?_ _)); refine blk_put (cs := #[.slice none 0 0, .slice none 0 0, .int .i64 0]) ?_ 2 _ rfl; (with_reducible repeat (first | refine blk_drewN ?_ _ | refine blk_drew ?_ | refine blk_alloc ?_ _)); refine blk_put (cs := #[.slice none 0 0, .slice none 0 0, .int .i64 0]) ?_ 1 _ rfl; (with_reducible repeat (first | refine blk_drewN ?_ _ | refine blk_drew ?_ | refine blk_alloc ?_ _)); refine blk_put (cs := #[.slice none 0 0, .slice none 0 0, .int .i64 0]) ?_ 0 _ rfl; (with_reducible repeat (first | refine blk_drewN ?_ _ | refine blk_drew ?_ | refine blk_alloc ?_ _)); exact BK194.out⟩, ⟨by repeat (first | (with_reducible first | exact HB.out | apply below_alloc | apply pw_below_drewN | apply below_drew1 | refine below_set ?_ GE192.out | refine below_set ?_ GE194.out) | exact HB.out)⟩⟩
  case round =>
   clear H'
   try clear p2
   try clear c3
   try clear c5
   try clear c6
   try clear hcz7_0
   try clear hcz7_1
   try clear hcz7_2
   try clear hfz7_0
   try clear hfz7_1
   try clear hfz7_2
   obtain ⟨x6_1, x195000_1, x195001_1, u195000, u195001, rfl, HA, HK1, HO_195000, HO_195001, BK192, BK194, HB⟩ := hrel
   cases gk with
   | zero => exact absurd HA.out (by simp [earshotref10_Bins.l0])
   | succ k1 =>
     have H := HA.out
     clear HA
     simp only [earshotref10_Bins.l0] at H
     by_cases c8 : x6_1 ≤ (wrap64 (Int.tdiv (l0.length : Int) 2))
     ·
      rw [if_pos c8] at H
      have c8b0 : decide (x6_1 ≤ (wrap64 (Int.tdiv (l0.length : Int) 2))) = true := decide_eq_true c8
      have c8b0q : decide (x6_1 ≤ (wrap64 ((l0.length : Int) / 2))) = true := by rw [← Int.tdiv_eq_ediv_of_nonneg (show (0 : Int) ≤ (l0.length : Int) by omega)]; exact c8b0
      clear c8
      replace H := Option.bind_eq_some_iff.mp H
      obtain ⟨t195, A90, H⟩ := H
      replace H : ((earshotref09_Real.f k1 t195).bind fun t198 => (if x195000_1.length < 17592186044416 then ((earshotref09_Imag.f k1 t195).bind fun t202 => (if x195001_1.length < 17592186044416 then (earshotref10_Bins.l0 k1 l0 (l0.length : Int) (wrap64 (x6_1 + 1)) (x195000_1 ++ [t198]) (x195001_1 ++ [t202]) 0) else (none))) else (none))) = some (r1, r2, r3) := H
      have A9 := Aside0.mk A90
      clear A90
      replace H := Option.bind_eq_some_iff.mp H
      obtain ⟨t198, A100, H⟩ := H
      replace H : (if x195000_1.length < 17592186044416 then ((earshotref09_Imag.f k1 t195).bind fun t202 => (if x195001_1.length < 17592186044416 then (earshotref10_Bins.l0 k1 l0 (l0.length : Int) (wrap64 (x6_1 + 1)) (x195000_1 ++ [t198]) (x195001_1 ++ [t202]) 0) else (none))) else (none)) = some (r1, r2, r3) := H
      have A10 := Aside0.mk A100
      clear A100
      by_cases c11 : x195000_1.length < 17592186044416
      ·
       rw [if_pos c11] at H
       have LMc11 := Aside0.mk c11
       clear c11
       obtain ⟨y199, hy199⟩ : ∃ y_ : List Int, y_ = (x195000_1 ++ [t198]) := ⟨_, rfl⟩
       replace H : ((earshotref09_Imag.f k1 t195).bind fun t202 => (if x195001_1.length < 17592186044416 then (earshotref10_Bins.l0 k1 l0 (l0.length : Int) (wrap64 (x6_1 + 1)) y199 (x195001_1 ++ [t202]) 0) else (none))) = some (r1, r2, r3) := by first | (rw [hy199]; with_reducible exact H) | (have H2_ := (Option.bind_some _ _).symm.trans H; rw [hy199]; with_reducible exact H2_) | (have H2_ := (Option.bind_some _ _).symm.trans H; with_reducible exact H2_) | with_reducible exact H | (rw [hy199]; exact H) | exact H
       have Ny199 := Aside0.mk hy199
       clear hy199
       replace H := Option.bind_eq_some_iff.mp H
       obtain ⟨t202, A120, H⟩ := H
       replace H : (if x195001_1.length < 17592186044416 then (earshotref10_Bins.l0 k1 l0 (l0.length : Int) (wrap64 (x6_1 + 1)) y199 (x195001_1 ++ [t202]) 0) else (none)) = some (r1, r2, r3) := H
       have A12 := Aside0.mk A120
       clear A120
       by_cases c13 : x195001_1.length < 17592186044416
       ·
        rw [if_pos c13] at H
        have LMc13 := Aside0.mk c13
        clear c13
        obtain ⟨y203, hy203⟩ : ∃ y_ : List Int, y_ = (x195001_1 ++ [t202]) := ⟨_, rfl⟩
        replace H : (earshotref10_Bins.l0 k1 l0 (l0.length : Int) (wrap64 (x6_1 + 1)) y199 y203 0) = some (r1, r2, r3) := by first | (rw [hy203]; with_reducible exact H) | (have H2_ := (Option.bind_some _ _).symm.trans H; rw [hy203]; with_reducible exact H2_) | (have H2_ := (Option.bind_some _ _).symm.trans H; with_reducible exact H2_) | with_reducible exact H | (rw [hy203]; exact H) | exact H
        have Ny203 := Aside0.mk hy203
        clear hy203
        have H' := Aside0.mk H
        clear H
        try go_wp2_with (first | ((with_reducible refine gate_callee (f := 88) rfl ?_); refine goesL_ (some 26) rfl rfl Tryd.func88 (by kernel_rfl) rfl #[.int .i64 x6_1, .slice A0 l0.length c0] rfl (by (try simp only [List.map_toArray, List.map_cons, List.map_nil]); first | done | rfl | (simp only [List.length_drop, List.length_take]; rfl)) ?_; (with_reducible refine (earshotref10_Sum.calls x6_1 _ _ l0 t195 _ ?side1 ?side2 A9.out).mono ?_); (case side1 => repeat (first | exact (Kd.C_below HR0.out HB.out) | (with_reducible refine Kd.C_alloc ?_ _) | (with_reducible refine Kd.C_drewN ?_ _) | (with_reducible refine Kd.C_drew ?_))); (case side2 => exact HC0.out); rintro e w14 ⟨v196, rfl, ho0, hb⟩; refine ⟨_, rfl, ?_⟩; have n0_ := Aside0.mk (Kd.R_elder' (by (with_reducible repeat (first | apply Kd.R_alloc | apply Kd.R_drewN | apply Kd.R_drew)); (first | exact HO_195000.out | exact Kd.R_mono HO_195000.out (fun _ _ => trivial) | exact Kd.R_mono HO_195000.out (fun _ hk => hk.1))) (Kd.R_base ho0) hb); have n1_ := Aside0.mk (Kd.R_elder' (by (with_reducible repeat (first | apply Kd.R_alloc | apply Kd.R_drewN | apply Kd.R_drew)); (first | exact HO_195001.out | exact Kd.R_mono HO_195001.out (fun _ _ => trivial) | exact Kd.R_mono HO_195001.out (fun _ hk => hk.1))) (Kd.R_base ho0) hb); have n2_ := Aside0.mk (Kd.R_lower (Kd.R_new' (Kd.R_new' ho0 (Kd.R_lt (by (with_reducible repeat (first | apply Kd.R_alloc | apply Kd.R_drewN | apply Kd.R_drew)); (first | exact HO_195000.out | exact Kd.R_mono HO_195000.out (fun _ _ => trivial) | exact Kd.R_mono HO_195000.out (fun _ hk => hk.1))))) (Kd.R_lt (by (with_reducible repeat (first | apply Kd.R_alloc | apply Kd.R_drewN | apply Kd.R_drew)); (first | exact HO_195001.out | exact Kd.R_mono HO_195001.out (fun _ _ => trivial) | exact Kd.R_mono HO_195001.out (fun _ hk => hk.1))))) (below_size (by repeat (first | (with_reducible first | exact HB.out | apply below_alloc | apply pw_below_drewN | apply below_drew1 | refine below_set ?_ GE192.out | refine below_set ?_ GE194.out) | exact HB.out)))); have n3_ := Aside0.mk (blk_below (g := gb192) (o := .cells #[.slice none 0 0, .slice none 0 0, .int .i64 0] 80 (0, 0)) (by (with_reducible repeat (first | refine blk_drewN ?_ _ | refine blk_drew ?_ | refine blk_alloc ?_ _)); exact BK192.out) hb); have n4_ := Aside0.mk (blk_below (g := gb194) (o := .cells #[u195000, u195001, .int .i64 0] 80 (0, 0)) (by (with_reducible repeat (first | refine blk_drewN ?_ _ | refine blk_drew ?_ | refine blk_alloc ?_ _)); exact BK194.out) hb); have n5_ := Aside0.mk (below_step (by repeat (first | (with_reducible first | exact HB.out | apply below_alloc | apply pw_below_drewN | apply below_drew1 | refine below_set ?_ GE192.out | refine below_set ?_ GE194.out) | exact HB.out)) hb); clear HO_195000; clear HO_195001; clear BK192; clear BK194; clear HB; have HO_195000 := n0_; have HO_195001 := n1_; have HO197 := n2_; have BK192 := n3_; have BK194 := n4_; have HB := n5_; clear n0_ n1_ n2_ n3_ n4_ n5_; (try clear hb); (try clear hb2); (try clear hk); (try clear hi); (try clear ho0)))
        have n0_ := Aside0.mk (Kd.R_drew HO_195000.out)
        have n1_ := Aside0.mk (Kd.R_drew HO_195001.out)
        have n2_ := Aside0.mk (Kd.R_drew HO197.out)
        have n3_ := Aside0.mk (blk_drew BK192.out)
        have n4_ := Aside0.mk (blk_drew BK194.out)
        have n5_ := Aside0.mk (below_drew1 HB.out)
        clear HO_195000
        clear HO_195001
        clear HO197
        clear BK192
        clear BK194
        clear HB
        have HO_195000 := n0_
        have HO_195001 := n1_
        have HO197 := n2_
        have BK192 := n3_
        have BK194 := n4_
        have HB := n5_
        clear n0_ n1_ n2_ n3_ n4_ n5_
        obtain ⟨Ao16, co16, eo16⟩ := Kd.R_slice HO197.out
        (first | subst eo16 | (injection eo16 with f1_ f2_ f3_; have f4_ := f1_.symm; have f5_ := f3_.symm; clear f1_ f2_ f3_; subst f4_; subst f5_))
        refine start_ (n := 8) (S := fun w' => w'.cell? ⟨gb194, 0, none⟩ = some (u195000) ∧ w'.cell? ⟨gb194, 1, none⟩ = some (u195001) ∧ w'.cell? ⟨gb194, 2, none⟩ = some (.int .i64 0)) (ds := [7]) #[false, false, false, false, false, false, false, false] (by kernel_rfl) rfl rfl ⟨(blk_cell BK194.out 0).trans rfl, (blk_cell BK194.out 1).trans rfl, (blk_cell BK194.out 2).trans rfl⟩ (fun hHeld => ?_); refine with_tabW earshotref10_Bins.tab10 earshotref10_Bins.bits10 (fun HT_ HW_ => ?_)
        generalize w14.drew = w15 at HO_195000 HO_195001 HO197 BK192 BK194 HB hHeld ⊢
        refine pure_ (i := 0) (N := some 27) (v := ?_) (a' := ?_) #[true, false, false, false, false, false, false, false] rfl rfl (any_of HT_.out (by kernel_rfl)) (fun _ _ _ h => h) (Or.inl ⟨by rfl, ?_⟩) ?_ ?_
        rotate_left
        ·
         intro w'
         go_simp
         with_reducible rfl
        rotate_left
        ·
         simp only [Act.put, List.setIfInBounds_toArray, List.set_cons_zero, List.set_cons_succ, i64_w, i32_w]
         rfl
        refine pure_ (i := 2) (N := some 29) (v := ?_) (a' := ?_) #[true, false, true, false, false, false, false, false] rfl rfl (any_of HT_.out (by kernel_rfl)) (fun _ _ _ h => h) (Or.inl ⟨by rfl, ?_⟩) ?_ ?_
        rotate_left
        ·
         intro w'
         go_simp
         with_reducible rfl
        rotate_left
        ·
         simp only [Act.put, List.setIfInBounds_toArray, List.set_cons_zero, List.set_cons_succ, i64_w, i32_w]
         rfl
        refine take_ (i := 1) (N := some 28) (v := ?_) (a' := ?_) #[true, true, true, false, false, false, false, false] rfl rfl (take_ofW HT_.out HW_.out (by kernel_rfl)) (fun _ _ _ h => h) (Or.inl ⟨by rfl, ?_⟩) hHeld ?_ ?_
        rotate_left
        ·
         rintro w' ⟨s0, s1, s2⟩
         go_simp
         with_reducible rfl
        rotate_left
        ·
         simp only [Act.put, List.setIfInBounds_toArray, List.set_cons_zero, List.set_cons_succ, i64_w, i32_w]
         rfl
        refine one_ (i := 3) (N := some 30) #[true, true, true, true, false, false, false, false] rfl rfl (one_of HT_.out (by kernel_rfl)) (by decide) (fun K hK => ?_)
        refine goes_ Tryd.func89 (by kernel_rfl) rfl #[.slice Ao16 t195.length co16] (by first | rfl | exact wanted_on rfl rfl rfl (by first | assumption | rfl | (simp [*]; done))) rfl rfl (by (try simp only [List.map_toArray, List.map_cons, List.map_nil]); first | done | rfl | (simp only [List.length_drop, List.length_take]; rfl)) ?_
        with_reducible refine (earshotref09_Real.calls k1 _ _ t195 t198 _ ?side1 ?side2 A10.out).mono ?_
        (case side1 => repeat (first | exact (Kd.R_reads' HO197.out).2.2 | (with_reducible refine Kd.C_alloc ?_ _) | (with_reducible refine Kd.C_drewN ?_ _) | (with_reducible refine Kd.C_drew ?_)))
        (case side2 => exact (Kd.R_reads' HO197.out).2.1)
        rintro e w17 ⟨rfl, hb⟩
        refine ⟨_, rfl, ?_⟩
        have n0_ := Aside0.mk (Kd.R_below (by (with_reducible repeat (first | apply Kd.R_alloc | apply Kd.R_drewN | apply Kd.R_drew)); (first | exact HO_195000.out | exact Kd.R_mono HO_195000.out (fun _ _ => trivial) | exact Kd.R_mono HO_195000.out (fun _ hk => hk.1))) hb)
        have n1_ := Aside0.mk (Kd.R_below (by (with_reducible repeat (first | apply Kd.R_alloc | apply Kd.R_drewN | apply Kd.R_drew)); (first | exact HO_195001.out | exact Kd.R_mono HO_195001.out (fun _ _ => trivial) | exact Kd.R_mono HO_195001.out (fun _ hk => hk.1))) hb)
        have n2_ := Aside0.mk (Kd.R_below (by (with_reducible repeat (first | apply Kd.R_alloc | apply Kd.R_drewN | apply Kd.R_drew)); (first | exact HO197.out | exact Kd.R_mono HO197.out (fun _ _ => trivial) | exact Kd.R_mono HO197.out (fun _ hk => hk.1))) hb)
        have n3_ := Aside0.mk (blk_below (g := gb192) (o := .cells #[.slice none 0 0, .slice none 0 0, .int .i64 0] 80 (0, 0)) (by (with_reducible repeat (first | refine blk_drewN ?_ _ | refine blk_drew ?_ | refine blk_alloc ?_ _)); exact BK192.out) hb)
        have n4_ := Aside0.mk (blk_below (g := gb194) (o := .cells #[u195000, u195001, .int .i64 0] 80 (0, 0)) (by (with_reducible repeat (first | refine blk_drewN ?_ _ | refine blk_drew ?_ | refine blk_alloc ?_ _)); exact BK194.out) hb)
        have n5_ := Aside0.mk (below_step (by repeat (first | (with_reducible first | exact HB.out | apply below_alloc | apply pw_below_drewN | apply below_drew1 | refine below_set ?_ GE192.out | refine below_set ?_ GE194.out) | exact HB.out)) hb)
        clear HO_195000
        clear HO_195001
        clear HO197
        clear BK192
        clear BK194
        clear HB
        have HO_195000 := n0_
        have HO_195001 := n1_
        have HO197 := n2_
        have BK192 := n3_
        have BK194 := n4_
        have HB := n5_
        clear n0_ n1_ n2_ n3_ n4_ n5_
        (try clear hb)
        (try clear hb2)
        (try clear hk)
        (try clear hi)
        refine hK.out _ _ ⟨(blk_cell BK194.out 0).trans rfl, (blk_cell BK194.out 1).trans rfl, (blk_cell BK194.out 2).trans rfl⟩ (fun hHeld => ?_)
        clear hK K
        refine norm_ (a' := ?_) ?_ ?_
        rotate_left
        ·
         show Act.put _ (some 30) _ = _
         simp only [Act.put, List.setIfInBounds_toArray, List.set_cons_zero, List.set_cons_succ, i64_w, i32_w]
         rfl
        refine one_ (i := 4) (N := some 31) #[true, true, true, true, true, false, false, false] rfl rfl (one_of HT_.out (by kernel_rfl)) (by decide) (fun K hK => ?_)
        refine value_ (w1 := ?_) (v := ?_) (by rfl) rfl ?_ ?_
        rotate_left 2
        ·
         go_simp
         constructor
         · rfl
         · rfl
        refine hK.out _ _ ⟨(blk_cell (blk_alloc BK194.out _) 0).trans rfl, (blk_cell (blk_alloc BK194.out _) 1).trans rfl, (blk_cell (blk_alloc BK194.out _) 2).trans rfl⟩ (fun hHeld => ?_)
        clear hK K
        refine norm_ (a' := ?_) ?_ ?_
        rotate_left
        ·
         show Act.put _ (some 31) _ = _
         simp only [Act.put, List.setIfInBounds_toArray, List.set_cons_zero, List.set_cons_succ, i64_w, i32_w]
         rfl
        refine one_ (i := 5) (N := some 32) #[true, true, true, true, true, true, false, false] rfl rfl (one_of HT_.out (by kernel_rfl)) (by decide) (fun K hK => ?_)
        refine Kd.R_append_step (Kd.int .i64) (w0 := w) w.heap.size (by rfl) (.tmp 28) (.tmp 31) 22 3 (.int .i64 0) 8 rfl Tryd.underlying22 info3 rfl (by decide) (by omega) u195000 x195000_1 t198 [.int .i64 t198] (fun k_ => some k_ ≠ (u195001 : Value).ownBlock ∧ some k_ ≠ (.slice Ao16 t195.length co16 : Value).ownBlock) (fun _ => False) rfl rfl ?aP (fun _ hk => hk.elim) ?aF ?aO ?aB ?aS ?aL ?_
        (case aP => exact rfl)
        (case aB => exact (by repeat (first | (with_reducible first | exact HB.out | apply below_alloc | apply pw_below_drewN | apply below_drew1 | refine below_set ?_ GE192.out | refine below_set ?_ GE194.out) | exact HB.out)))
        (case aF => exact (fun k_ hk => ⟨Kd.fresh' (Kd.R_lt (by (with_reducible repeat (first | apply Kd.R_alloc | apply Kd.R_drewN | apply Kd.R_drew)); (first | exact HO_195001.out | exact Kd.R_mono HO_195001.out (fun _ _ => trivial) | exact Kd.R_mono HO_195001.out (fun _ hk => hk.1)))) k_ hk, Kd.fresh' (Kd.R_lt (by (with_reducible repeat (first | apply Kd.R_alloc | apply Kd.R_drewN | apply Kd.R_drew)); (first | exact HO197.out | exact Kd.R_mono HO197.out (fun _ _ => trivial) | exact Kd.R_mono HO197.out (fun _ hk => hk.1)))) k_ hk⟩))
        (case aO => exact (by (with_reducible repeat (first | apply Kd.R_alloc | apply Kd.R_drewN | apply Kd.R_drew)); (first | exact HO_195000.out | exact Kd.R_mono HO_195000.out (fun _ _ => trivial) | exact Kd.R_mono HO_195000.out (fun _ hk => hk.1))))
        (case aS => exact (below_size (by repeat (first | (with_reducible first | exact HB.out | apply below_alloc | apply pw_below_drewN | apply below_drew1 | refine below_set ?_ GE192.out | refine below_set ?_ GE194.out) | exact HB.out))))
        (case aL => have := LMc11.out; omega)
        intro v200 w18 ho hb hg hat
        rw [← Ny199.out] at ho
        have n0_ := Aside0.mk (Kd.R_after (ok := (fun k_ => some k_ ≠ (.slice Ao16 t195.length co16 : Value).ownBlock)) (by (with_reducible repeat (first | apply Kd.R_alloc | apply Kd.R_drewN | apply Kd.R_drew)); (first | exact Kd.R_mono HO_195001.out (fun _ hk => ⟨hk.2, hk.1⟩) | exact Kd.R_mono HO_195001.out (fun _ _ => trivial))) hg hat)
        have n1_ := Aside0.mk (blk_grown (g := gb192) (o := .cells #[.slice none 0 0, .slice none 0 0, .int .i64 0] 80 (0, 0)) (by (with_reducible repeat (first | refine blk_drewN ?_ _ | refine blk_drew ?_ | refine blk_alloc ?_ _)); exact BK192.out) hg (Kd.R_ne HO_195000.out BK192.out (by decide)))
        have n2_ := Aside0.mk (blk_grown (g := gb194) (o := .cells #[u195000, u195001, .int .i64 0] 80 (0, 0)) (by (with_reducible repeat (first | refine blk_drewN ?_ _ | refine blk_drew ?_ | refine blk_alloc ?_ _)); exact BK194.out) hg (Kd.R_ne HO_195000.out BK194.out (by decide)))
        have n3_ := Aside0.mk (Kd.R_after (ok := (fun k_ => some k_ ≠ (u195001 : Value).ownBlock)) (by (with_reducible repeat (first | apply Kd.R_alloc | apply Kd.R_drewN | apply Kd.R_drew)); (first | exact Kd.R_mono HO197.out (fun _ hk => ⟨hk.2, hk.1.2⟩) | exact Kd.R_mono HO197.out (fun _ _ => trivial))) hg hat)
        have n4_ := Aside0.mk (hb)
        have n5_ := Aside0.mk (ho)
        clear HO_195001
        clear BK192
        clear BK194
        clear HO197
        clear HB
        clear HO_195000
        have HO_195001 := n0_
        have BK192 := n1_
        have BK194 := n2_
        have HO197 := n3_
        have HB := n4_
        have HO201 := n5_
        clear n0_ n1_ n2_ n3_ n4_ n5_
        clear ho hb hg hat
        obtain ⟨Ao19, co19, eo19⟩ := Kd.R_slice HO201.out
        (first | subst eo19 | (injection eo19 with f1_ f2_ f3_; have f4_ := f1_.symm; have f5_ := f3_.symm; clear f1_ f2_ f3_; subst f4_; subst f5_))
        refine hK.out _ _ ⟨(blk_cell BK194.out 0).trans rfl, (blk_cell BK194.out 1).trans rfl, (blk_cell BK194.out 2).trans rfl⟩ (fun hHeld => ?_)
        clear hK K
        refine norm_ (a' := ?_) ?_ ?_
        rotate_left
        ·
         show Act.put _ (some 32) _ = _
         simp only [Act.put, List.setIfInBounds_toArray, List.set_cons_zero, List.set_cons_succ, i64_w, i32_w]
         rfl
        refine pure_ (i := 6) (N := some 33) (v := ?_) (a' := ?_) #[true, true, true, true, true, true, true, false] rfl rfl (any_of HT_.out (by kernel_rfl)) (fun _ _ _ h => h) (Or.inl ⟨by rfl, ?_⟩) ?_ ?_
        rotate_left
        ·
         intro w'
         go_simp
         with_reducible rfl
        rotate_left
        ·
         simp only [Act.put, List.setIfInBounds_toArray, List.set_cons_zero, List.set_cons_succ, i64_w, i32_w]
         rfl
        refine last_ (i := 7) (N := none) #[true, true, true, true, true, true, true, true] rfl rfl (one_of HT_.out (by kernel_rfl)) (by decide) (fun K hK => ?_)
        have hs20 : w18.cell? ⟨gb194, 0, none⟩ = some (u195000) := (blk_cell BK194.out 0).trans rfl
        have hfs20 := blk_frozen BK194.out 0
        have hns20_0 := NB192_194.out
        have hms20_0 := NB194_192.out
        refine skip_ (w1 := ?_) (by rfl) rfl ?_ ?_
        rotate_left
        ·
         go_simp
         rfl
        refine hK.out _ _ ?_
        clear hK K
        refine done_ (done_of HT_.out (by kernel_rfl)) ?_
        try go_wp2
        have n0_ : Aside0 (Kd.R (Kd.int .i64) 3 (w18.setCell ⟨gb194, 0, none⟩ (.slice Ao19 y199.length co19)) w.heap.size (fun k_ => some k_ ≠ (.slice Ao16 t195.length co16 : Value).ownBlock ∧ some k_ ≠ (.slice Ao19 y199.length co19 : Value).ownBlock) u195001 x195001_1) := ⟨by (with_reducible repeat (first | apply Kd.R_alloc | apply Kd.R_drewN | apply Kd.R_drew)); exact Kd.R_mono (Kd.R_far (p := ⟨gb194, 0, none⟩) (Kd.R_types HO_195001.out BK194.out (by decide)) (fun _ hk => hk.2) (.slice Ao19 y199.length co19)) (fun _ hk => ⟨hk.1.1, hk.1.2⟩)⟩
        have n1_ : Aside0 (Kd.R (Kd.int .i64) 3 (w18.setCell ⟨gb194, 0, none⟩ (.slice Ao19 y199.length co19)) w.heap.size (fun k_ => some k_ ≠ (u195001 : Value).ownBlock ∧ some k_ ≠ (.slice Ao19 y199.length co19 : Value).ownBlock) (.slice Ao16 t195.length co16) t195) := ⟨by (with_reducible repeat (first | apply Kd.R_alloc | apply Kd.R_drewN | apply Kd.R_drew)); exact Kd.R_mono (Kd.R_far (p := ⟨gb194, 0, none⟩) (Kd.R_types HO197.out BK194.out (by decide)) (fun _ hk => hk.2) (.slice Ao19 y199.length co19)) (fun _ hk => ⟨hk.1.1, hk.1.2⟩)⟩
        have n2_ : Aside0 (Kd.R (Kd.int .i64) 3 (w18.setCell ⟨gb194, 0, none⟩ (.slice Ao19 y199.length co19)) w.heap.size (fun k_ => some k_ ≠ (u195001 : Value).ownBlock ∧ some k_ ≠ (.slice Ao16 t195.length co16 : Value).ownBlock) (.slice Ao19 y199.length co19) y199) := ⟨by (with_reducible repeat (first | apply Kd.R_alloc | apply Kd.R_drewN | apply Kd.R_drew)); exact Kd.R_mono (Kd.R_far (p := ⟨gb194, 0, none⟩) (Kd.R_types HO201.out BK194.out (by decide)) (fun _ hk => hk.2) (.slice Ao19 y199.length co19)) (fun _ hk => ⟨hk.1.1, hk.1.2⟩)⟩
        have n3_ : Aside0 ((w18.setCell ⟨gb194, 0, none⟩ (.slice Ao19 y199.length co19)).heap[gb192]? = some (.cells #[.slice none 0 0, .slice none 0 0, .int .i64 0] 80 (0, 0))) := ⟨by (with_reducible repeat (first | refine blk_drewN ?_ _ | refine blk_drew ?_ | refine blk_alloc ?_ _)); refine blk_far ?_ NB192_194.out _; (with_reducible repeat (first | refine blk_drewN ?_ _ | refine blk_drew ?_ | refine blk_alloc ?_ _)); exact BK192.out⟩
        have n4_ : Aside0 ((w18.setCell ⟨gb194, 0, none⟩ (.slice Ao19 y199.length co19)).heap[gb194]? = some (.cells #[.slice Ao19 y199.length co19, u195001, .int .i64 0] 80 (0, 0))) := ⟨by (with_reducible repeat (first | refine blk_drewN ?_ _ | refine blk_drew ?_ | refine blk_alloc ?_ _)); refine blk_put (cs := #[u195000, u195001, .int .i64 0]) ?_ 0 _ rfl; (with_reducible repeat (first | refine blk_drewN ?_ _ | refine blk_drew ?_ | refine blk_alloc ?_ _)); exact BK194.out⟩
        have n5_ : Aside0 (Below w.heap.size w (w18.setCell ⟨gb194, 0, none⟩ (.slice Ao19 y199.length co19))) := ⟨by repeat (first | (with_reducible first | exact HB.out | apply below_alloc | apply pw_below_drewN | apply below_drew1 | refine below_set ?_ GE192.out | refine below_set ?_ GE194.out) | exact HB.out)⟩
        (try clear HO_195001)
        (try clear HO197)
        (try clear HO201)
        (try clear BK192)
        (try clear BK194)
        (try clear HB)
        generalize (w18.setCell ⟨gb194, 0, none⟩ (.slice Ao19 y199.length co19)) = w21 at n0_ n1_ n2_ n3_ n4_ n5_ ⊢
        have HO_195001 := n0_
        have HO197 := n1_
        have HO201 := n2_
        have BK192 := n3_
        have BK194 := n4_
        have HB := n5_
        clear n0_ n1_ n2_ n3_ n4_ n5_
        have n0_ := Aside0.mk (Kd.R_drew HO_195001.out)
        have n1_ := Aside0.mk (Kd.R_drew HO197.out)
        have n2_ := Aside0.mk (Kd.R_drew HO201.out)
        have n3_ := Aside0.mk (blk_drew BK192.out)
        have n4_ := Aside0.mk (blk_drew BK194.out)
        have n5_ := Aside0.mk (below_drew1 HB.out)
        clear HO_195001
        clear HO197
        clear HO201
        clear BK192
        clear BK194
        clear HB
        have HO_195001 := n0_
        have HO197 := n1_
        have HO201 := n2_
        have BK192 := n3_
        have BK194 := n4_
        have HB := n5_
        clear n0_ n1_ n2_ n3_ n4_ n5_
        refine start_ (n := 8) (S := fun w' => w'.cell? ⟨gb194, 0, none⟩ = some (.slice Ao19 y199.length co19) ∧ w'.cell? ⟨gb194, 1, none⟩ = some (u195001) ∧ w'.cell? ⟨gb194, 2, none⟩ = some (.int .i64 0)) (ds := [7]) #[false, false, false, false, false, false, false, false] (by kernel_rfl) rfl rfl ⟨(blk_cell BK194.out 0).trans rfl, (blk_cell BK194.out 1).trans rfl, (blk_cell BK194.out 2).trans rfl⟩ (fun hHeld => ?_); refine with_tabW earshotref10_Bins.tab11 earshotref10_Bins.bits11 (fun HT_ HW_ => ?_)
        generalize w21.drew = w22 at HO_195001 HO197 HO201 BK192 BK194 HB hHeld ⊢
        refine pure_ (i := 0) (N := some 34) (v := ?_) (a' := ?_) #[true, false, false, false, false, false, false, false] rfl rfl (any_of HT_.out (by kernel_rfl)) (fun _ _ _ h => h) (Or.inl ⟨by rfl, ?_⟩) ?_ ?_
        rotate_left
        ·
         intro w'
         go_simp
         with_reducible rfl
        rotate_left
        ·
         simp only [Act.put, List.setIfInBounds_toArray, List.set_cons_zero, List.set_cons_succ, i64_w, i32_w]
         rfl
        refine pure_ (i := 2) (N := some 36) (v := ?_) (a' := ?_) #[true, false, true, false, false, false, false, false] rfl rfl (any_of HT_.out (by kernel_rfl)) (fun _ _ _ h => h) (Or.inl ⟨by rfl, ?_⟩) ?_ ?_
        rotate_left
        ·
         intro w'
         go_simp
         with_reducible rfl
        rotate_left
        ·
         simp only [Act.put, List.setIfInBounds_toArray, List.set_cons_zero, List.set_cons_succ, i64_w, i32_w]
         rfl
        refine take_ (i := 1) (N := some 35) (v := ?_) (a' := ?_) #[true, true, true, false, false, false, false, false] rfl rfl (take_ofW HT_.out HW_.out (by kernel_rfl)) (fun _ _ _ h => h) (Or.inl ⟨by rfl, ?_⟩) hHeld ?_ ?_
        rotate_left
        ·
         rintro w' ⟨s0, s1, s2⟩
         go_simp
         with_reducible rfl
        rotate_left
        ·
         simp only [Act.put, List.setIfInBounds_toArray, List.set_cons_zero, List.set_cons_succ, i64_w, i32_w]
         rfl
        refine one_ (i := 3) (N := some 37) #[true, true, true, true, false, false, false, false] rfl rfl (one_of HT_.out (by kernel_rfl)) (by decide) (fun K hK => ?_)
        refine goes_ Tryd.func90 (by kernel_rfl) rfl #[.slice Ao16 t195.length co16] (by first | rfl | exact wanted_on rfl rfl rfl (by first | assumption | rfl | (simp [*]; done))) rfl rfl (by (try simp only [List.map_toArray, List.map_cons, List.map_nil]); first | done | rfl | (simp only [List.length_drop, List.length_take]; rfl)) ?_
        with_reducible refine (earshotref09_Imag.calls k1 _ _ t195 t202 _ ?side1 ?side2 A12.out).mono ?_
        (case side1 => repeat (first | exact (Kd.R_reads' HO197.out).2.2 | (with_reducible refine Kd.C_alloc ?_ _) | (with_reducible refine Kd.C_drewN ?_ _) | (with_reducible refine Kd.C_drew ?_)))
        (case side2 => exact (Kd.R_reads' HO197.out).2.1)
        rintro e w23 ⟨rfl, hb⟩
        refine ⟨_, rfl, ?_⟩
        have n0_ := Aside0.mk (Kd.R_below (by (with_reducible repeat (first | apply Kd.R_alloc | apply Kd.R_drewN | apply Kd.R_drew)); (first | exact HO_195001.out | exact Kd.R_mono HO_195001.out (fun _ _ => trivial) | exact Kd.R_mono HO_195001.out (fun _ hk => hk.1))) hb)
        have n1_ := Aside0.mk (Kd.R_below (by (with_reducible repeat (first | apply Kd.R_alloc | apply Kd.R_drewN | apply Kd.R_drew)); (first | exact HO197.out | exact Kd.R_mono HO197.out (fun _ _ => trivial) | exact Kd.R_mono HO197.out (fun _ hk => hk.1))) hb)
        have n2_ := Aside0.mk (Kd.R_below (by (with_reducible repeat (first | apply Kd.R_alloc | apply Kd.R_drewN | apply Kd.R_drew)); (first | exact HO201.out | exact Kd.R_mono HO201.out (fun _ _ => trivial) | exact Kd.R_mono HO201.out (fun _ hk => hk.1))) hb)
        have n3_ := Aside0.mk (blk_below (g := gb192) (o := .cells #[.slice none 0 0, .slice none 0 0, .int .i64 0] 80 (0, 0)) (by (with_reducible repeat (first | refine blk_drewN ?_ _ | refine blk_drew ?_ | refine blk_alloc ?_ _)); exact BK192.out) hb)
        have n4_ := Aside0.mk (blk_below (g := gb194) (o := .cells #[.slice Ao19 y199.length co19, u195001, .int .i64 0] 80 (0, 0)) (by (with_reducible repeat (first | refine blk_drewN ?_ _ | refine blk_drew ?_ | refine blk_alloc ?_ _)); exact BK194.out) hb)
        have n5_ := Aside0.mk (below_step (by repeat (first | (with_reducible first | exact HB.out | apply below_alloc | apply pw_below_drewN | apply below_drew1 | refine below_set ?_ GE192.out | refine below_set ?_ GE194.out) | exact HB.out)) hb)
        clear HO_195001
        clear HO197
        clear HO201
        clear BK192
        clear BK194
        clear HB
        have HO_195001 := n0_
        have HO197 := n1_
        have HO201 := n2_
        have BK192 := n3_
        have BK194 := n4_
        have HB := n5_
        clear n0_ n1_ n2_ n3_ n4_ n5_
        (try clear hb)
        (try clear hb2)
        (try clear hk)
        (try clear hi)
        refine hK.out _ _ ⟨(blk_cell BK194.out 0).trans rfl, (blk_cell BK194.out 1).trans rfl, (blk_cell BK194.out 2).trans rfl⟩ (fun hHeld => ?_)
        clear hK K
        refine norm_ (a' := ?_) ?_ ?_
        rotate_left
        ·
         show Act.put _ (some 37) _ = _
         simp only [Act.put, List.setIfInBounds_toArray, List.set_cons_zero, List.set_cons_succ, i64_w, i32_w]
         rfl
        refine one_ (i := 4) (N := some 38) #[true, true, true, true, true, false, false, false] rfl rfl (one_of HT_.out (by kernel_rfl)) (by decide) (fun K hK => ?_)
        refine value_ (w1 := ?_) (v := ?_) (by rfl) rfl ?_ ?_
        rotate_left 2
        ·
         go_simp
         constructor
         · rfl
         · rfl
        refine hK.out _ _ ⟨(blk_cell (blk_alloc BK194.out _) 0).trans rfl, (blk_cell (blk_alloc BK194.out _) 1).trans rfl, (blk_cell (blk_alloc BK194.out _) 2).trans rfl⟩ (fun hHeld => ?_)
        clear hK K
        refine norm_ (a' := ?_) ?_ ?_
        rotate_left
        ·
         show Act.put _ (some 38) _ = _
         simp only [Act.put, List.setIfInBounds_toArray, List.set_cons_zero, List.set_cons_succ, i64_w, i32_w]
         rfl
        refine one_ (i := 5) (N := some 39) #[true, true, true, true, true, true, false, false] rfl rfl (one_of HT_.out (by kernel_rfl)) (by decide) (fun K hK => ?_)
        refine Kd.R_append_step (Kd.int .i64) (w0 := w) w.heap.size (by rfl) (.tmp 35) (.tmp 38) 22 3 (.int .i64 0) 8 rfl Tryd.underlying22 info3 rfl (by decide) (by omega) u195001 x195001_1 t202 [.int .i64 t202] (fun k_ => some k_ ≠ (.slice Ao16 t195.length co16 : Value).ownBlock ∧ some k_ ≠ (.slice Ao19 y199.length co19 : Value).ownBlock) (fun _ => False) rfl rfl ?aP (fun _ hk => hk.elim) ?aF ?aO ?aB ?aS ?aL ?_
        (case aP => exact rfl)
        (case aB => exact (by repeat (first | (with_reducible first | exact HB.out | apply below_alloc | apply pw_below_drewN | apply below_drew1 | refine below_set ?_ GE192.out | refine below_set ?_ GE194.out) | exact HB.out)))
        (case aF => exact (fun k_ hk => ⟨Kd.fresh' (Kd.R_lt (by (with_reducible repeat (first | apply Kd.R_alloc | apply Kd.R_drewN | apply Kd.R_drew)); (first | exact HO197.out | exact Kd.R_mono HO197.out (fun _ _ => trivial) | exact Kd.R_mono HO197.out (fun _ hk => hk.1)))) k_ hk, Kd.fresh' (Kd.R_lt (by (with_reducible repeat (first | apply Kd.R_alloc | apply Kd.R_drewN | apply Kd.R_drew)); (first | exact HO201.out | exact Kd.R_mono HO201.out (fun _ _ => trivial) | exact Kd.R_mono HO201.out (fun _ hk => hk.1)))) k_ hk⟩))
        (case aO => exact (by (with_reducible repeat (first | apply Kd.R_alloc | apply Kd.R_drewN | apply Kd.R_drew)); (first | exact HO_195001.out | exact Kd.R_mono HO_195001.out (fun _ _ => trivial) | exact Kd.R_mono HO_195001.out (fun _ hk => hk.1))))
        (case aS => exact (below_size (by repeat (first | (with_reducible first | exact HB.out | apply below_alloc | apply pw_below_drewN | apply below_drew1 | refine below_set ?_ GE192.out | refine below_set ?_ GE194.out) | exact HB.out))))
        (case aL => have := LMc13.out; omega)
        intro v204 w24 ho hb hg hat
        rw [← Ny203.out] at ho
        have n0_ := Aside0.mk (blk_grown (g := gb192) (o := .cells #[.slice none 0 0, .slice none 0 0, .int .i64 0] 80 (0, 0)) (by (with_reducible repeat (first | refine blk_drewN ?_ _ | refine blk_drew ?_ | refine blk_alloc ?_ _)); exact BK192.out) hg (Kd.R_ne HO_195001.out BK192.out (by decide)))
        have n1_ := Aside0.mk (blk_grown (g := gb194) (o := .cells #[.slice Ao19 y199.length co19, u195001, .int .i64 0] 80 (0, 0)) (by (with_reducible repeat (first | refine blk_drewN ?_ _ | refine blk_drew ?_ | refine blk_alloc ?_ _)); exact BK194.out) hg (Kd.R_ne HO_195001.out BK194.out (by decide)))
        have n2_ := Aside0.mk (Kd.R_after (ok := (fun k_ => some k_ ≠ (.slice Ao19 y199.length co19 : Value).ownBlock)) (by (with_reducible repeat (first | apply Kd.R_alloc | apply Kd.R_drewN | apply Kd.R_drew)); (first | exact Kd.R_mono HO197.out (fun _ hk => ⟨hk.2, hk.1⟩) | exact Kd.R_mono HO197.out (fun _ _ => trivial))) hg hat)
        have n3_ := Aside0.mk (Kd.R_after (ok := (fun k_ => some k_ ≠ (.slice Ao16 t195.length co16 : Value).ownBlock)) (by (with_reducible repeat (first | apply Kd.R_alloc | apply Kd.R_drewN | apply Kd.R_drew)); (first | exact Kd.R_mono HO201.out (fun _ hk => ⟨hk.2, hk.1⟩) | exact Kd.R_mono HO201.out (fun _ _ => trivial))) hg hat)
        have n4_ := Aside0.mk (hb)
        have n5_ := Aside0.mk (ho)
        clear BK192
        clear BK194
        clear HO197
        clear HO201
        clear HB
        clear HO_195001
        have BK192 := n0_
        have BK194 := n1_
        have HO197 := n2_
        have HO201 := n3_
        have HB := n4_
        have HO205 := n5_
        clear n0_ n1_ n2_ n3_ n4_ n5_
        clear ho hb hg hat
        obtain ⟨Ao25, co25, eo25⟩ := Kd.R_slice HO205.out
        (first | subst eo25 | (injection eo25 with f1_ f2_ f3_; have f4_ := f1_.symm; have f5_ := f3_.symm; clear f1_ f2_ f3_; subst f4_; subst f5_))
        refine hK.out _ _ ⟨(blk_cell BK194.out 0).trans rfl, (blk_cell BK194.out 1).trans rfl, (blk_cell BK194.out 2).trans rfl⟩ (fun hHeld => ?_)
        clear hK K
        refine norm_ (a' := ?_) ?_ ?_
        rotate_left
        ·
         show Act.put _ (some 39) _ = _
         simp only [Act.put, List.setIfInBounds_toArray, List.set_cons_zero, List.set_cons_succ, i64_w, i32_w]
         rfl
        refine pure_ (i := 6) (N := some 40) (v := ?_) (a' := ?_) #[true, true, true, true, true, true, true, false] rfl rfl (any_of HT_.out (by kernel_rfl)) (fun _ _ _ h => h) (Or.inl ⟨by rfl, ?_⟩) ?_ ?_
        rotate_left
        ·
         intro w'
         go_simp
         with_reducible rfl
        rotate_left
        ·
         simp only [Act.put, List.setIfInBounds_toArray, List.set_cons_zero, List.set_cons_succ, i64_w, i32_w]
         rfl
        refine last_ (i := 7) (N := none) #[true, true, true, true, true, true, true, true] rfl rfl (one_of HT_.out (by kernel_rfl)) (by decide) (fun K hK => ?_)
        have hs26 : w24.cell? ⟨gb194, 1, none⟩ = some (u195001) := (blk_cell BK194.out 1).trans rfl
        have hfs26 := blk_frozen BK194.out 1
        have hns26_0 := NB192_194.out
        have hms26_0 := NB194_192.out
        refine skip_ (w1 := ?_) (by rfl) rfl ?_ ?_
        rotate_left
        ·
         go_simp
         rfl
        refine hK.out _ _ ?_
        clear hK K
        refine done_ (done_of HT_.out (by kernel_rfl)) ?_
        try go_wp2
        go_roundg k1
        case measure => have := HK1.out; omega
        case rel => exact ⟨(wrap64 (x6_1 + 1)), (y199), (y203), (.slice Ao19 y199.length co19), (.slice Ao25 y203.length co25), (by first | rfl | (simp; done) | (simp [*]; done)), H', ⟨by have := HK1.out; omega⟩, ⟨by (with_reducible repeat (first | apply Kd.R_alloc | apply Kd.R_drewN | apply Kd.R_drew)); exact Kd.R_mono (Kd.R_far (p := ⟨gb194, 1, none⟩) (Kd.R_types HO201.out BK194.out (by decide)) (fun _ hk => hk.2) (.slice Ao25 y203.length co25)) (fun _ hk => hk.1.2)⟩, ⟨by (with_reducible repeat (first | apply Kd.R_alloc | apply Kd.R_drewN | apply Kd.R_drew)); exact Kd.R_mono (Kd.R_far (p := ⟨gb194, 1, none⟩) (Kd.R_types HO205.out BK194.out (by decide)) (fun _ hk => hk.2) (.slice Ao25 y203.length co25)) (fun _ hk => hk.1.2)⟩, ⟨by (with_reducible repeat (first | refine blk_drewN ?_ _ | refine blk_drew ?_ | refine blk_alloc ?_ _)); refine blk_far ?_ NB192_194.out _; (with_reducible repeat (first | refine blk_drewN ?_ _ | refine blk_drew ?_ | refine blk_alloc ?_ _)); exact BK192.out⟩, ⟨by (with_reducible repeat (first | refine blk_drewN ?_ _ | refine blk_drew ?_ | refine blk_alloc ?_ _)); refine blk_put (cs := #[.slice Ao19 y199.length co19, u195001, .int .i64 0]) ?_ 1 _ rfl; (with_reducible repeat (first | refine blk_drewN ?_ _ | refine blk_drew ?_ | refine blk_alloc ?_ _)); exact BK194.out⟩, ⟨by repeat (first | (with_reducible first | exact HB.out | apply below_alloc | apply pw_below_drewN | apply below_drew1 | refine below_set ?_ GE192.out | refine below_set ?_ GE194.out) | exact HB.out)⟩⟩
       ·
        rw [if_neg c13] at H
        exact absurd H (by simp)
      ·
       rw [if_neg c11] at H
       exact absurd H (by simp)
     ·
      rw [if_neg c8] at H
      have c8b0 : decide (x6_1 ≤ (wrap64 (Int.tdiv (l0.length : Int) 2))) = false := decide_eq_false c8
      have c8b0q : decide (x6_1 ≤ (wrap64 ((l0.length : Int) / 2))) = false := by rw [← Int.tdiv_eq_ediv_of_nonneg (show (0 : Int) ≤ (l0.length : Int) by omega)]; exact c8b0
      clear c8
      obtain ⟨y206, hy206⟩ : ∃ y_ : List Int, y_ = (([] : List Int)) := ⟨_, rfl⟩
      replace H : (if y206.length + x195000_1.length < 17592186044416 then ((some (y206 ++ x195000_1 : List Int)).bind fun y209 => (if y209.length + x195001_1.length < 17592186044416 then ((earshotref03_Norm.f k1 (y209 ++ x195001_1)).bind fun t215 => (if t215 > 15 then (earshotref10_Bins.j1 k1 (l0.length : Int) x195000_1 x195001_1 (wrap64 (t215 - 15))) else (earshotref10_Bins.j1 k1 (l0.length : Int) x195000_1 x195001_1 0))) else (none))) else (none)) = some (r1, r2, r3) := by first | (rw [hy206]; with_reducible exact H) | (have H2_ := (Option.bind_some _ _).symm.trans H; rw [hy206]; with_reducible exact H2_) | (have H2_ := (Option.bind_some _ _).symm.trans H; with_reducible exact H2_) | with_reducible exact H | (rw [hy206]; exact H) | exact H
      have Ny206 := Aside0.mk hy206
      clear hy206
      by_cases c27 : y206.length + x195000_1.length < 17592186044416
      ·
       rw [if_pos c27] at H
       have LMc27 := Aside0.mk c27
       clear c27
       obtain ⟨y209, hy209⟩ : ∃ y_ : List Int, y_ = (y206 ++ x195000_1) := ⟨_, rfl⟩
       replace H : (if y209.length + x195001_1.length < 17592186044416 then ((earshotref03_Norm.f k1 (y209 ++ x195001_1)).bind fun t215 => (if t215 > 15 then (earshotref10_Bins.j1 k1 (l0.length : Int) x195000_1 x195001_1 (wrap64 (t215 - 15))) else (earshotref10_Bins.j1 k1 (l0.length : Int) x195000_1 x195001_1 0))) else (none)) = some (r1, r2, r3) := by first | (rw [hy209]; with_reducible exact H) | (have H2_ := (Option.bind_some _ _).symm.trans H; rw [hy209]; with_reducible exact H2_) | (have H2_ := (Option.bind_some _ _).symm.trans H; with_reducible exact H2_) | with_reducible exact H | (rw [hy209]; exact H) | exact H
       have Ny209 := Aside0.mk hy209
       clear hy209
       by_cases c28 : y209.length + x195001_1.length < 17592186044416
       ·
        rw [if_pos c28] at H
        have LMc28 := Aside0.mk c28
        clear c28
        obtain ⟨y212, hy212⟩ : ∃ y_ : List Int, y_ = (y209 ++ x195001_1) := ⟨_, rfl⟩
        replace H : ((earshotref03_Norm.f k1 y212).bind fun t215 => (if t215 > 15 then (earshotref10_Bins.j1 k1 (l0.length : Int) x195000_1 x195001_1 (wrap64 (t215 - 15))) else (earshotref10_Bins.j1 k1 (l0.length : Int) x195000_1 x195001_1 0))) = some (r1, r2, r3) := by first | (rw [hy212]; with_reducible exact H) | (have H2_ := (Option.bind_some _ _).symm.trans H; rw [hy212]; with_reducible exact H2_) | (have H2_ := (Option.bind_some _ _).symm.trans H; with_reducible exact H2_) | with_reducible exact H | (rw [hy212]; exact H) | exact H
        have Ny212 := Aside0.mk hy212
        clear hy212
        replace H := Option.bind_eq_some_iff.mp H
        obtain ⟨t215, A290, H⟩ := H
        replace H : (if t215 > 15 then (earshotref10_Bins.j1 k1 (l0.length : Int) x195000_1 x195001_1 (wrap64 (t215 - 15))) else (earshotref10_Bins.j1 k1 (l0.length : Int) x195000_1 x195001_1 0)) = some (r1, r2, r3) := H
        have A29 := Aside0.mk A290
        clear A290
        have HC30 := Aside0.mk H
        clear H
        try go_wp2
        have n0_ := Aside0.mk (Kd.R_drew HO_195000.out)
        have n1_ := Aside0.mk (Kd.R_drew HO_195001.out)
        have n2_ := Aside0.mk (blk_drew BK192.out)
        have n3_ := Aside0.mk (blk_drew BK194.out)
        have n4_ := Aside0.mk (below_drew1 HB.out)
        clear HO_195000
        clear HO_195001
        clear BK192
        clear BK194
        clear HB
        have HO_195000 := n0_
        have HO_195001 := n1_
        have BK192 := n2_
        have BK194 := n3_
        have HB := n4_
        clear n0_ n1_ n2_ n3_ n4_
        refine start_ (n := 9) (S := fun w' => w'.cell? ⟨gb194, 0, none⟩ = some (u195000) ∧ w'.cell? ⟨gb194, 1, none⟩ = some (u195001) ∧ w'.cell? ⟨gb194, 2, none⟩ = some (.int .i64 0)) (ds := []) #[false, false, false, false, false, false, false, false, false] (by kernel_rfl) rfl rfl ⟨(blk_cell BK194.out 0).trans rfl, (blk_cell BK194.out 1).trans rfl, (blk_cell BK194.out 2).trans rfl⟩ (fun hHeld => ?_); refine with_tabW earshotref10_Bins.tab12 earshotref10_Bins.bits12 (fun HT_ HW_ => ?_)
        generalize wr.drew = w31 at HO_195000 HO_195001 BK192 BK194 HB hHeld ⊢
        refine pure_ (i := 1) (N := some 42) (v := ?_) (a' := ?_) #[false, true, false, false, false, false, false, false, false] rfl rfl (any_of HT_.out (by kernel_rfl)) (fun _ _ _ h => h) (Or.inl ⟨by rfl, ?_⟩) ?_ ?_
        rotate_left
        ·
         intro w'
         go_simp
         with_reducible rfl
        rotate_left
        ·
         simp only [Act.put, List.setIfInBounds_toArray, List.set_cons_zero, List.set_cons_succ, i64_w, i32_w]
         rfl
        refine pure_ (i := 4) (N := some 45) (v := ?_) (a' := ?_) #[false, true, false, false, true, false, false, false, false] rfl rfl (any_of HT_.out (by kernel_rfl)) (fun _ _ _ h => h) (Or.inl ⟨by rfl, ?_⟩) ?_ ?_
        rotate_left
        ·
         intro w'
         go_simp
         with_reducible rfl
        rotate_left
        ·
         simp only [Act.put, List.setIfInBounds_toArray, List.set_cons_zero, List.set_cons_succ, i64_w, i32_w]
         rfl
        refine take_ (i := 2) (N := some 43) (v := ?_) (a' := ?_) #[false, true, true, false, true, false, false, false, false] rfl rfl (take_ofW HT_.out HW_.out (by kernel_rfl)) (fun _ _ _ h => h) (Or.inl ⟨by rfl, ?_⟩) hHeld ?_ ?_
        rotate_left
        ·
         rintro w' ⟨s0, s1, s2⟩
         go_simp
         with_reducible rfl
        rotate_left
        ·
         simp only [Act.put, List.setIfInBounds_toArray, List.set_cons_zero, List.set_cons_succ, i64_w, i32_w]
         rfl
        refine take_ (i := 5) (N := some 46) (v := ?_) (a' := ?_) #[false, true, true, false, true, true, false, false, false] rfl rfl (take_ofW HT_.out HW_.out (by kernel_rfl)) (fun _ _ _ h => h) (Or.inl ⟨by rfl, ?_⟩) hHeld ?_ ?_
        rotate_left
        ·
         rintro w' ⟨s0, s1, s2⟩
         go_simp
         with_reducible rfl
        rotate_left
        ·
         simp only [Act.put, List.setIfInBounds_toArray, List.set_cons_zero, List.set_cons_succ, i64_w, i32_w]
         rfl
        refine one_ (i := 0) (N := some 41) #[true, true, true, false, true, true, false, false, false] rfl rfl (one_of HT_.out (by kernel_rfl)) (by decide) (fun K hK => ?_)
        refine Kd.R_lit_step (Kd.int .i64) _ 3 ?hg (N := 41) ?hd (xs := ([] : List Int)) (inner := []) (ok := fun _ => True) (okp := fun _ => True) ?hr ?hp (fun _ hk => hk) trivial (Below.refl _ _) (Nat.le_refl _) (by simp) ?_; (case hd => rfl); (case hg => first | rfl | exact wanted_on rfl rfl rfl (by first | assumption | rfl | (simp [*]; done))); (case hr => first | (go_simp; done) | (go_simp; rfl)); (case hp => exact (Reps.none _ _))
        intro v207 w32 ho33 hb hg_ hnew_
        clear hg_ hnew_
        (first | rw [← Ny206.out] at ho33 | (simp only [Int.reduceToNat] at ho33; rw [← Ny206.out] at ho33))
        have n0_ := Aside0.mk (Kd.R_elder' (by (with_reducible repeat (first | apply Kd.R_alloc | apply Kd.R_drewN | apply Kd.R_drew)); (first | exact HO_195000.out | exact Kd.R_mono HO_195000.out (fun _ _ => trivial) | exact Kd.R_mono HO_195000.out (fun _ hk => hk.1))) (Kd.R_base ho33) hb)
        have n1_ := Aside0.mk (Kd.R_elder' (by (with_reducible repeat (first | apply Kd.R_alloc | apply Kd.R_drewN | apply Kd.R_drew)); (first | exact HO_195001.out | exact Kd.R_mono HO_195001.out (fun _ _ => trivial) | exact Kd.R_mono HO_195001.out (fun _ hk => hk.1))) (Kd.R_base ho33) hb)
        have n2_ := Aside0.mk (Kd.R_lower (Kd.R_new' (Kd.R_new' ho33 (Kd.R_lt (by (with_reducible repeat (first | apply Kd.R_alloc | apply Kd.R_drewN | apply Kd.R_drew)); (first | exact HO_195000.out | exact Kd.R_mono HO_195000.out (fun _ _ => trivial) | exact Kd.R_mono HO_195000.out (fun _ hk => hk.1))))) (Kd.R_lt (by (with_reducible repeat (first | apply Kd.R_alloc | apply Kd.R_drewN | apply Kd.R_drew)); (first | exact HO_195001.out | exact Kd.R_mono HO_195001.out (fun _ _ => trivial) | exact Kd.R_mono HO_195001.out (fun _ hk => hk.1))))) (below_size (by repeat (first | (with_reducible first | exact HB.out | apply below_alloc | apply pw_below_drewN | apply below_drew1 | refine below_set ?_ GE192.out | refine below_set ?_ GE194.out) | exact HB.out))))
        have n3_ := Aside0.mk (blk_below (g := gb192) (o := .cells #[.slice none 0 0, .slice none 0 0, .int .i64 0] 80 (0, 0)) (by (with_reducible repeat (first | refine blk_drewN ?_ _ | refine blk_drew ?_ | refine blk_alloc ?_ _)); exact BK192.out) hb)
        have n4_ := Aside0.mk (blk_below (g := gb194) (o := .cells #[u195000, u195001, .int .i64 0] 80 (0, 0)) (by (with_reducible repeat (first | refine blk_drewN ?_ _ | refine blk_drew ?_ | refine blk_alloc ?_ _)); exact BK194.out) hb)
        have n5_ := Aside0.mk (below_step (by repeat (first | (with_reducible first | exact HB.out | apply below_alloc | apply pw_below_drewN | apply below_drew1 | refine below_set ?_ GE192.out | refine below_set ?_ GE194.out) | exact HB.out)) hb)
        clear HO_195000
        clear HO_195001
        clear BK192
        clear BK194
        clear HB
        have HO_195000 := n0_
        have HO_195001 := n1_
        have HO208 := n2_
        have BK192 := n3_
        have BK194 := n4_
        have HB := n5_
        clear n0_ n1_ n2_ n3_ n4_ n5_
        clear hb ho33
        obtain ⟨Ao35, co35, eo35⟩ := Kd.R_slice HO_195000.out
        (first | subst eo35 | (injection eo35 with f1_ f2_ f3_; have f4_ := f1_.symm; have f5_ := f3_.symm; clear f1_ f2_ f3_; subst f4_; subst f5_))
        refine hK.out _ _ ⟨(blk_cell BK194.out 0).trans rfl, (blk_cell BK194.out 1).trans rfl, (blk_cell BK194.out 2).trans rfl⟩ (fun hHeld => ?_)
        clear hK K
        refine norm_ (a' := ?_) ?_ ?_
        rotate_left
        ·
         show Act.put _ (some 41) _ = _
         simp only [Act.put, List.setIfInBounds_toArray, List.set_cons_zero, List.set_cons_succ, i64_w, i32_w]
         rfl
        refine one_ (i := 3) (N := some 44) #[true, true, true, true, true, true, false, false, false] rfl rfl (one_of HT_.out (by kernel_rfl)) (by decide) (fun K hK => ?_)
        refine Kd.R_append_rows_step (Kd.int .i64) (w0 := w) w.heap.size (by rfl) (.tmp 41) (.tmp 43) 22 3 (.int .i64 0) 8 rfl Tryd.underlying22 info3 rfl (by decide) (by omega) v207 y206 x195000_1 _ _ _ (fun k_ => some k_ ≠ (.slice Ao35 x195000_1.length co35 : Value).ownBlock ∧ some k_ ≠ (u195001 : Value).ownBlock) (fun _ => False) rfl rfl ?aO ?aR (fun _ _ h => h) (fun _ h => h.elim) ?aF ?aB ?aS ?aL ?_
        (case aR => repeat (first | exact (Kd.R_reads' HO_195000.out).2.2 | (with_reducible refine Kd.C_alloc ?_ _) | (with_reducible refine Kd.C_drewN ?_ _) | (with_reducible refine Kd.C_drew ?_)))
        (case aB => exact (by repeat (first | (with_reducible first | exact HB.out | apply below_alloc | apply pw_below_drewN | apply below_drew1 | refine below_set ?_ GE192.out | refine below_set ?_ GE194.out) | exact HB.out)))
        (case aF => exact (fun k_ hk => ⟨Kd.fresh' (Kd.R_lt (by (with_reducible repeat (first | apply Kd.R_alloc | apply Kd.R_drewN | apply Kd.R_drew)); (first | exact HO_195000.out | exact Kd.R_mono HO_195000.out (fun _ _ => trivial) | exact Kd.R_mono HO_195000.out (fun _ hk => hk.1)))) k_ hk, Kd.fresh' (Kd.R_lt (by (with_reducible repeat (first | apply Kd.R_alloc | apply Kd.R_drewN | apply Kd.R_drew)); (first | exact HO_195001.out | exact Kd.R_mono HO_195001.out (fun _ _ => trivial) | exact Kd.R_mono HO_195001.out (fun _ hk => hk.1)))) k_ hk⟩))
        (case aO => exact (by (with_reducible repeat (first | apply Kd.R_alloc | apply Kd.R_drewN | apply Kd.R_drew)); (first | exact Kd.R_mono HO208.out (fun _ hk => ⟨hk.1.2, hk.2⟩) | exact Kd.R_mono HO208.out (fun _ _ => trivial))))
        (case aS => exact (below_size (by repeat (first | (with_reducible first | exact HB.out | apply below_alloc | apply pw_below_drewN | apply below_drew1 | refine below_set ?_ GE192.out | refine below_set ?_ GE194.out) | exact HB.out))))
        (case aL => have := LMc27.out; omega)
        intro v210 w34 ho hb hg hat
        rw [← Ny209.out] at ho
        have n0_ := Aside0.mk (Kd.R_after (ok := (fun k_ => some k_ ≠ (u195001 : Value).ownBlock)) (by (with_reducible repeat (first | apply Kd.R_alloc | apply Kd.R_drewN | apply Kd.R_drew)); (first | exact HO_195000.out | exact Kd.R_mono HO_195000.out (fun _ _ => trivial) | exact Kd.R_mono HO_195000.out (fun _ hk => hk.1))) hg hat)
        have n1_ := Aside0.mk (Kd.R_after (ok := (fun k_ => some k_ ≠ (.slice Ao35 x195000_1.length co35 : Value).ownBlock)) (by (with_reducible repeat (first | apply Kd.R_alloc | apply Kd.R_drewN | apply Kd.R_drew)); (first | exact HO_195001.out | exact Kd.R_mono HO_195001.out (fun _ _ => trivial) | exact Kd.R_mono HO_195001.out (fun _ hk => hk.1))) hg hat)
        have n2_ := Aside0.mk (blk_grown (g := gb192) (o := .cells #[.slice none 0 0, .slice none 0 0, .int .i64 0] 80 (0, 0)) (by (with_reducible repeat (first | refine blk_drewN ?_ _ | refine blk_drew ?_ | refine blk_alloc ?_ _)); exact BK192.out) hg (Kd.R_ne HO208.out BK192.out (by decide)))
        have n3_ := Aside0.mk (blk_grown (g := gb194) (o := .cells #[.slice Ao35 x195000_1.length co35, u195001, .int .i64 0] 80 (0, 0)) (by (with_reducible repeat (first | refine blk_drewN ?_ _ | refine blk_drew ?_ | refine blk_alloc ?_ _)); exact BK194.out) hg (Kd.R_ne HO208.out BK194.out (by decide)))
        have n4_ := Aside0.mk (hb)
        have n5_ := Aside0.mk (ho)
        clear HO_195000
        clear HO_195001
        clear BK192
        clear BK194
        clear HB
        clear HO208
        have HO_195000 := n0_
        have HO_195001 := n1_
        have BK192 := n2_
        have BK194 := n3_
        have HB := n4_
        have HO211 := n5_
        clear n0_ n1_ n2_ n3_ n4_ n5_
        clear ho hb hg hat
        obtain ⟨Ao37, co37, eo37⟩ := Kd.R_slice HO_195001.out
        (first | subst eo37 | (injection eo37 with f1_ f2_ f3_; have f4_ := f1_.symm; have f5_ := f3_.symm; clear f1_ f2_ f3_; subst f4_; subst f5_))
        refine hK.out _ _ ⟨(blk_cell BK194.out 0).trans rfl, (blk_cell BK194.out 1).trans rfl, (blk_cell BK194.out 2).trans rfl⟩ (fun hHeld => ?_)
        clear hK K
        refine norm_ (a' := ?_) ?_ ?_
        rotate_left
        ·
         show Act.put _ (some 44) _ = _
         simp only [Act.put, List.setIfInBounds_toArray, List.set_cons_zero, List.set_cons_succ, i64_w, i32_w]
         rfl
        refine one_ (i := 6) (N := some 47) #[true, true, true, true, true, true, true, false, false] rfl rfl (one_of HT_.out (by kernel_rfl)) (by decide) (fun K hK => ?_)
        refine Kd.R_append_rows_step (Kd.int .i64) (w0 := w) w.heap.size (by rfl) (.tmp 44) (.tmp 46) 22 3 (.int .i64 0) 8 rfl Tryd.underlying22 info3 rfl (by decide) (by omega) v210 y209 x195001_1 _ _ _ (fun k_ => some k_ ≠ (.slice Ao35 x195000_1.length co35 : Value).ownBlock ∧ some k_ ≠ (.slice Ao37 x195001_1.length co37 : Value).ownBlock) (fun _ => False) rfl rfl ?aO ?aR (fun _ _ h => h) (fun _ h => h.elim) ?aF ?aB ?aS ?aL ?_
        (case aR => repeat (first | exact (Kd.R_reads' HO_195001.out).2.2 | (with_reducible refine Kd.C_alloc ?_ _) | (with_reducible refine Kd.C_drewN ?_ _) | (with_reducible refine Kd.C_drew ?_)))
        (case aB => exact (by repeat (first | (with_reducible first | exact HB.out | apply below_alloc | apply pw_below_drewN | apply below_drew1 | refine below_set ?_ GE192.out | refine below_set ?_ GE194.out) | exact HB.out)))
        (case aF => exact (fun k_ hk => ⟨Kd.fresh' (Kd.R_lt (by (with_reducible repeat (first | apply Kd.R_alloc | apply Kd.R_drewN | apply Kd.R_drew)); (first | exact HO_195000.out | exact Kd.R_mono HO_195000.out (fun _ _ => trivial) | exact Kd.R_mono HO_195000.out (fun _ hk => hk.1)))) k_ hk, Kd.fresh' (Kd.R_lt (by (with_reducible repeat (first | apply Kd.R_alloc | apply Kd.R_drewN | apply Kd.R_drew)); (first | exact HO_195001.out | exact Kd.R_mono HO_195001.out (fun _ _ => trivial) | exact Kd.R_mono HO_195001.out (fun _ hk => hk.1)))) k_ hk⟩))
        (case aO => exact (by (with_reducible repeat (first | apply Kd.R_alloc | apply Kd.R_drewN | apply Kd.R_drew)); (first | exact HO211.out | exact Kd.R_mono HO211.out (fun _ _ => trivial) | exact Kd.R_mono HO211.out (fun _ hk => hk.1))))
        (case aS => exact (below_size (by repeat (first | (with_reducible first | exact HB.out | apply below_alloc | apply pw_below_drewN | apply below_drew1 | refine below_set ?_ GE192.out | refine below_set ?_ GE194.out) | exact HB.out))))
        (case aL => have := LMc28.out; omega)
        intro v213 w36 ho hb hg hat
        rw [← Ny212.out] at ho
        have n0_ := Aside0.mk (Kd.R_after (ok := (fun k_ => some k_ ≠ (.slice Ao37 x195001_1.length co37 : Value).ownBlock)) (by (with_reducible repeat (first | apply Kd.R_alloc | apply Kd.R_drewN | apply Kd.R_drew)); (first | exact HO_195000.out | exact Kd.R_mono HO_195000.out (fun _ _ => trivial) | exact Kd.R_mono HO_195000.out (fun _ hk => hk.1))) hg hat)
        have n1_ := Aside0.mk (Kd.R_after (ok := (fun k_ => some k_ ≠ (.slice Ao35 x195000_1.length co35 : Value).ownBlock)) (by (with_reducible repeat (first | apply Kd.R_alloc | apply Kd.R_drewN | apply Kd.R_drew)); (first | exact HO_195001.out | exact Kd.R_mono HO_195001.out (fun _ _ => trivial) | exact Kd.R_mono HO_195001.out (fun _ hk => hk.1))) hg hat)
        have n2_ := Aside0.mk (blk_grown (g := gb192) (o := .cells #[.slice none 0 0, .slice none 0 0, .int .i64 0] 80 (0, 0)) (by (with_reducible repeat (first | refine blk_drewN ?_ _ | refine blk_drew ?_ | refine blk_alloc ?_ _)); exact BK192.out) hg (Kd.R_ne HO211.out BK192.out (by decide)))
        have n3_ := Aside0.mk (blk_grown (g := gb194) (o := .cells #[.slice Ao35 x195000_1.length co35, .slice Ao37 x195001_1.length co37, .int .i64 0] 80 (0, 0)) (by (with_reducible repeat (first | refine blk_drewN ?_ _ | refine blk_drew ?_ | refine blk_alloc ?_ _)); exact BK194.out) hg (Kd.R_ne HO211.out BK194.out (by decide)))
        have n4_ := Aside0.mk (hb)
        have n5_ := Aside0.mk (ho)
        clear HO_195000
        clear HO_195001
        clear BK192
        clear BK194
        clear HB
        clear HO211
        have HO_195000 := n0_
        have HO_195001 := n1_
        have BK192 := n2_
        have BK194 := n3_
        have HB := n4_
        have HO214 := n5_
        clear n0_ n1_ n2_ n3_ n4_ n5_
        clear ho hb hg hat
        obtain ⟨Ao38, co38, eo38⟩ := Kd.R_slice HO214.out
        (first | subst eo38 | (injection eo38 with f1_ f2_ f3_; have f4_ := f1_.symm; have f5_ := f3_.symm; clear f1_ f2_ f3_; subst f4_; subst f5_))
        refine hK.out _ _ ⟨(blk_cell BK194.out 0).trans rfl, (blk_cell BK194.out 1).trans rfl, (blk_cell BK194.out 2).trans rfl⟩ (fun hHeld => ?_)
        clear hK K
        refine norm_ (a' := ?_) ?_ ?_
        rotate_left
        ·
         show Act.put _ (some 47) _ = _
         simp only [Act.put, List.setIfInBounds_toArray, List.set_cons_zero, List.set_cons_succ, i64_w, i32_w]
         rfl
        refine one_ (i := 7) (N := some 48) #[true, true, true, true, true, true, true, true, false] rfl rfl (one_of HT_.out (by kernel_rfl)) (by decide) (fun K hK => ?_)
        refine goes_ Tryd.func91 (by kernel_rfl) rfl #[.slice Ao38 y212.length co38] (by first | rfl | exact wanted_on rfl rfl rfl (by first | assumption | rfl | (simp [*]; done))) rfl rfl (by (try simp only [List.map_toArray, List.map_cons, List.map_nil]); first | done | rfl | (simp only [List.length_drop, List.length_take]; rfl)) ?_
        with_reducible refine (earshotref03_Norm.calls k1 _ _ y212 t215 _ ?side1 ?side2 A29.out).mono ?_
        (case side1 => repeat (first | exact (Kd.R_reads' HO214.out).2.2 | (with_reducible refine Kd.C_alloc ?_ _) | (with_reducible refine Kd.C_drewN ?_ _) | (with_reducible refine Kd.C_drew ?_)))
        (case side2 => exact (Kd.R_reads' HO214.out).2.1)
        rintro e w' ⟨rfl, ⟨nd, rfl⟩⟩
        refine ⟨_, rfl, ?_⟩
        refine hK.out _ _ ⟨(blk_cell BK194.out 0).trans rfl, (blk_cell BK194.out 1).trans rfl, (blk_cell BK194.out 2).trans rfl⟩ (fun hHeld => ?_)
        clear hK K
        refine norm_ (a' := ?_) ?_ ?_
        rotate_left
        ·
         show Act.put _ (some 48) _ = _
         simp only [Act.put, List.setIfInBounds_toArray, List.set_cons_zero, List.set_cons_succ, i64_w, i32_w]
         rfl
        refine pure_ (i := 8) (N := some 8) (v := ?_) (a' := ?_) #[true, true, true, true, true, true, true, true, true] rfl rfl (any_of HT_.out (by kernel_rfl)) (fun _ _ _ h => h) (Or.inl ⟨by rfl, ?_⟩) ?_ ?_
        rotate_left
        ·
         intro w'
         go_simp
         with_reducible rfl
        rotate_left
        ·
         simp only [Act.put, List.setIfInBounds_toArray, List.set_cons_zero, List.set_cons_succ, i64_w, i32_w]
         rfl
        refine done_ (done_of HT_.out (by kernel_rfl)) ?_
        go_upto_if 50 with (fail)
        go_cut [] (fun wc => ∃ (kq : Nat) (x195002_29 : Int), Aside0 (earshotref10_Bins.j1 kq (l0.length : Int) x195000_1 x195001_1 x195002_29 = some (r1, r2, r3)) ∧ Aside0 (kq ≤ k1) ∧ Aside0 (Kd.R (Kd.int .i64) 3 wc w.heap.size (fun k_ => some k_ ≠ ((.slice Ao37 x195001_1.length co37) : Value).ownBlock) (.slice Ao35 x195000_1.length co35) x195000_1) ∧ Aside0 (Kd.R (Kd.int .i64) 3 wc w.heap.size (fun k_ => some k_ ≠ ((.slice Ao35 x195000_1.length co35) : Value).ownBlock) (.slice Ao37 x195001_1.length co37) x195001_1) ∧ Aside0 (wc.heap[gb192]? = some (.cells #[(.slice none 0 0), (.slice none 0 0), .int .i64 0] 80 (0, 0))) ∧ Aside0 (wc.heap[gb194]? = some (.cells #[(.slice Ao35 x195000_1.length co35), (.slice Ao37 x195001_1.length co37), .int .i64 x195002_29] 80 (0, 0))) ∧ Aside0 (Below w.heap.size w wc))
        case first =>
         have H := HC30.out
         clear HC30
         by_cases c39 : t215 > 15
         ·
          rw [if_pos c39] at H
          have c39b0 : decide (15 < t215) = true := decide_eq_true c39
          clear c39
          (first | rw [c39b0] | (simp only [i64_w, i32_w]; rw [c39b0]) | skip)
          have H' := Aside0.mk H
          clear H
          have hnb40 := NB194_192.out
          have hnc40 := NB192_194.out
          have hcz41_0 : w36.cell? ⟨gb194, 0, none⟩ = some (.slice Ao35 x195000_1.length co35) := (blk_cell BK194.out 0).trans rfl
          have hcz41_1 : w36.cell? ⟨gb194, 1, none⟩ = some (.slice Ao37 x195001_1.length co37) := (blk_cell BK194.out 1).trans rfl
          have hcz41_2 : w36.cell? ⟨gb194, 2, none⟩ = some (.int .i64 0) := (blk_cell BK194.out 2).trans rfl
          have hfz41_0 := blk_frozen BK194.out 0
          have hfz41_1 := blk_frozen BK194.out 1
          have hfz41_2 := blk_frozen BK194.out 2
          go_wp2
          go_meet
          case rel => exact ⟨_, (wrap64 (t215 - 15)), H', ⟨by have := HK1.out; first | omega | exact Nat.le_refl _⟩, ⟨by (with_reducible repeat (first | apply Kd.R_alloc | apply Kd.R_drewN | apply Kd.R_drew)); exact Kd.R_mono (Kd.R_far (p := ⟨gb194, 2, none⟩) (Kd.R_types HO_195000.out BK194.out (by decide)) (fun _ hk => hk.2) (.int .i64 (wrap64 (t215 - 15)))) (fun _ hk => hk.1.1)⟩, ⟨by (with_reducible repeat (first | apply Kd.R_alloc | apply Kd.R_drewN | apply Kd.R_drew)); exact Kd.R_mono (Kd.R_far (p := ⟨gb194, 2, none⟩) (Kd.R_types HO_195001.out BK194.out (by decide)) (fun _ hk => hk.2) (.int .i64 (wrap64 (t215 - 15)))) (fun _ hk => hk.1.1)⟩, ⟨by (with_reducible repeat (first | refine blk_drewN ?_ _ | refine blk_drew ?_ | refine blk_alloc ?_ _)); refine blk_far ?_ NB192_194.out _; (with_reducible repeat (first | refine blk_drewN ?_ _ | refine blk_drew ?_ | refine blk_alloc ?_ _)); exact BK192.out⟩, ⟨by (with_reducible repeat (first | refine blk_drewN ?_ _ | refine blk_drew ?_ | refine blk_alloc ?_ _)); refine blk_put (cs := #[.slice Ao35 x195000_1.length co35, .slice Ao37 x195001_1.length co37, .int .i64 0]) ?_ 2 _ rfl; (with_reducible repeat (first | refine blk_drewN ?_ _ | refine blk_drew ?_ | refine blk_alloc ?_ _)); exact BK194.out⟩, ⟨by repeat (first | (with_reducible first | exact HB.out | apply below_alloc | apply pw_below_drewN | apply below_drew1 | refine below_set ?_ GE192.out | refine below_set ?_ GE194.out) | exact HB.out)⟩⟩
         ·
          rw [if_neg c39] at H
          have c39b0 : decide (15 < t215) = false := decide_eq_false c39
          clear c39
          (first | rw [c39b0] | (simp only [i64_w, i32_w]; rw [c39b0]) | skip)
          have H' := Aside0.mk H
          clear H
          go_wp2
          go_meet
          case rel => exact ⟨_, (0), H', ⟨by have := HK1.out; first | omega | exact Nat.le_refl _⟩, ⟨by (with_reducible repeat (first | apply Kd.R_alloc | apply Kd.R_drewN | apply Kd.R_drew)); exact Kd.R_mono HO_195000.out (fun _ hk => hk.1)⟩, ⟨by (with_reducible repeat (first | apply Kd.R_alloc | apply Kd.R_drewN | apply Kd.R_drew)); exact Kd.R_mono HO_195001.out (fun _ hk => hk.1)⟩, ⟨by (with_reducible repeat (first | refine blk_drewN ?_ _ | refine blk_drew ?_ | refine blk_alloc ?_ _)); exact BK192.out⟩, ⟨by (with_reducible repeat (first | refine blk_drewN ?_ _ | refine blk_drew ?_ | refine blk_alloc ?_ _)); exact BK194.out⟩, ⟨by repeat (first | (with_reducible first | exact HB.out | apply below_alloc | apply pw_below_drewN | apply below_drew1 | refine below_set ?_ GE192.out | refine below_set ?_ GE194.out) | exact HB.out)⟩⟩
        case rest =>
         clear HC30
         try clear c1
         try clear c2
         try clear p2
         try clear c3
         try clear c4
         try clear p6
         try clear c8
         try clear c8b0
         try clear c9
         try clear c11
         try clear c13
         try clear c27
         try clear c28
         try clear c39
         try clear c39b0
         try clear c40
         try clear hcz41_0
         try clear hcz41_1
         try clear hcz41_2
         try clear hfz41_0
         try clear hfz41_1
         try clear hfz41_2
         obtain ⟨kq, x195002_29, HA, HJ29, HO_195000, HO_195001, BK192, BK194, HB⟩ := hcut
         cases kq with
         | zero => exact absurd HA.out (by simp [earshotref10_Bins.j1])
         | succ kj29 =>
           have H := HA.out
           clear HA
           simp only [earshotref10_Bins.j1] at H
           have H' := Aside0.mk H
           clear H
           go_wp2
           go_loopg [9] kj29 (fun kq v9 w' => ∃ (x9_3 : Int) (x195000_3 : List Int) (x195001_3 : List Int) (u195000 : Value) (u195001 : Value), v9 = .int .i64 x9_3 ∧ Aside0 (earshotref10_Bins.l1 kq (l0.length : Int) x9_3 x195000_3 x195001_3 x195002_29 = some (r1, r2, r3)) ∧ Aside0 (kq ≤ kj29) ∧ Aside0 (Kd.R (Kd.int .i64) 3 w' w.heap.size (fun k_ => some k_ ≠ (u195001 : Value).ownBlock) u195000 x195000_3) ∧ Aside0 (Kd.R (Kd.int .i64) 3 w' w.heap.size (fun k_ => some k_ ≠ (u195000 : Value).ownBlock) u195001 x195001_3) ∧ Aside0 (w'.heap[gb192]? = some (.cells #[(.slice none 0 0), (.slice none 0 0), .int .i64 0] 80 (0, 0))) ∧ Aside0 (w'.heap[gb194]? = some (.cells #[u195000, u195001, .int .i64 x195002_29] 80 (0, 0))) ∧ Aside0 (Below w.heap.size w w'))
           case atStart => exact ⟨(0), (x195000_1), (x195001_1), (.slice Ao35 x195000_1.length co35), (.slice Ao37 x195001_1.length co37), (by first | rfl | (simp; done) | (simp [*]; done)), H', ⟨Nat.le_refl _⟩, ⟨by (with_reducible repeat (first | apply Kd.R_alloc | apply Kd.R_drewN | apply Kd.R_drew)); exact HO_195000.out⟩, ⟨by (with_reducible repeat (first | apply Kd.R_alloc | apply Kd.R_drewN | apply Kd.R_drew)); exact HO_195001.out⟩, ⟨by (with_reducible repeat (first | refine blk_drewN ?_ _ | refine blk_drew ?_ | refine blk_alloc ?_ _)); exact BK192.out⟩, ⟨by (with_reducible repeat (first | refine blk_drewN ?_ _ | refine blk_drew ?_ | refine blk_alloc ?_ _)); exact BK194.out⟩, ⟨by repeat (first | (with_reducible first | exact HB.out | apply below_alloc | apply pw_below_drewN | apply below_drew1 | refine below_set ?_ GE192.out | refine below_set ?_ GE194.out) | exact HB.out)⟩⟩
           case round =>
            clear H'
            try clear c1
            try clear c2
            try clear p2
            try clear c3
            try clear c4
            try clear p6
            try clear c8
            try clear c8b0
            try clear c9
            try clear c11
            try clear c13
            try clear c27
            try clear c28
            try clear c39
            try clear c39b0
            try clear c40
            try clear hcz41_0
            try clear hcz41_1
            try clear hcz41_2
            try clear hfz41_0
            try clear hfz41_1
            try clear hfz41_2
            try clear p2
            try clear p6
            obtain ⟨x9_3, x195000_3, x195001_3, u195000, u195001, rfl, HA, HK3, HO_195000, HO_195001, BK192, BK194, HB⟩ := hrel
            cases gk with
            | zero => exact absurd HA.out (by simp [earshotref10_Bins.l1])
            | succ k3 =>
              have H := HA.out
              clear HA
              simp only [earshotref10_Bins.l1] at H
              by_cases c42 : x9_3 ≤ (wrap64 (Int.tdiv (l0.length : Int) 2))
              ·
               rw [if_pos c42] at H
               have c42b0 : decide (x9_3 ≤ (wrap64 (Int.tdiv (l0.length : Int) 2))) = true := decide_eq_true c42
               have c42b0q : decide (x9_3 ≤ (wrap64 ((l0.length : Int) / 2))) = true := by rw [← Int.tdiv_eq_ediv_of_nonneg (show (0 : Int) ≤ (l0.length : Int) by omega)]; exact c42b0
               clear c42
               by_cases c43 : 0 ≤ x9_3
               ·
                rw [if_pos c43] at H
                have c43b0 : decide (0 ≤ x9_3) = true := decide_eq_true c43
                clear c43
                by_cases c44 : x9_3 < (x195000_3.length : Int)
                ·
                 rw [if_pos c44] at H
                 have c44b0 : decide (x9_3 < (x195000_3.length : Int)) = true := decide_eq_true c44
                 clear c44
                 replace H := Option.bind_eq_some_iff.mp H
                 obtain ⟨t217, A450, H⟩ := H
                 replace H : (if x9_3 < (x195001_3.length : Int) then ((earshotref02_Half.f k3 (rd x195001_3 x9_3) x195002_29).bind fun t220 => (earshotref10_Bins.l1 k3 (l0.length : Int) (wrap64 (x9_3 + 1)) (x195000_3.set (x9_3 : Int).toNat t217) (x195001_3.set (x9_3 : Int).toNat t220) x195002_29)) else (none)) = some (r1, r2, r3) := H
                 have A45 := Aside0.mk A450
                 clear A450
                 obtain ⟨y218, hy218⟩ : ∃ y_ : List Int, y_ = (x195000_3.set (x9_3 : Int).toNat t217) := ⟨_, rfl⟩
                 replace H : (if x9_3 < (x195001_3.length : Int) then ((earshotref02_Half.f k3 (rd x195001_3 x9_3) x195002_29).bind fun t220 => (earshotref10_Bins.l1 k3 (l0.length : Int) (wrap64 (x9_3 + 1)) y218 (x195001_3.set (x9_3 : Int).toNat t220) x195002_29)) else (none)) = some (r1, r2, r3) := by first | (rw [hy218]; with_reducible exact H) | (have H2_ := (Option.bind_some _ _).symm.trans H; rw [hy218]; with_reducible exact H2_) | (have H2_ := (Option.bind_some _ _).symm.trans H; with_reducible exact H2_) | with_reducible exact H | (rw [hy218]; exact H) | exact H
                 have Ny218 := Aside0.mk hy218
                 clear hy218
                 by_cases c47 : x9_3 < (x195001_3.length : Int)
                 ·
                  rw [if_pos c47] at H
                  have c47b0 : decide (x9_3 < (x195001_3.length : Int)) = true := decide_eq_true c47
                  clear c47
                  replace H := Option.bind_eq_some_iff.mp H
                  obtain ⟨t220, A480, H⟩ := H
                  replace H : (earshotref10_Bins.l1 k3 (l0.length : Int) (wrap64 (x9_3 + 1)) y218 (x195001_3.set (x9_3 : Int).toNat t220) x195002_29) = some (r1, r2, r3) := H
                  have A48 := Aside0.mk A480
                  clear A480
                  obtain ⟨y221, hy221⟩ : ∃ y_ : List Int, y_ = (x195001_3.set (x9_3 : Int).toNat t220) := ⟨_, rfl⟩
                  replace H : (earshotref10_Bins.l1 k3 (l0.length : Int) (wrap64 (x9_3 + 1)) y218 y221 x195002_29) = some (r1, r2, r3) := by first | (rw [hy221]; with_reducible exact H) | (have H2_ := (Option.bind_some _ _).symm.trans H; rw [hy221]; with_reducible exact H2_) | (have H2_ := (Option.bind_some _ _).symm.trans H; with_reducible exact H2_) | with_reducible exact H | (rw [hy221]; exact H) | exact H
                  have Ny221 := Aside0.mk hy221
                  clear hy221
                  have H' := Aside0.mk H
                  clear H
                  try go_wp2
                  have n0_ := Aside0.mk (Kd.R_drew HO_195000.out)
                  have n1_ := Aside0.mk (Kd.R_drew HO_195001.out)
                  have n2_ := Aside0.mk (blk_drew BK192.out)
                  have n3_ := Aside0.mk (blk_drew BK194.out)
                  have n4_ := Aside0.mk (below_drew1 HB.out)
                  clear HO_195000
                  clear HO_195001
                  clear BK192
                  clear BK194
                  clear HB
                  have HO_195000 := n0_
                  have HO_195001 := n1_
                  have BK192 := n2_
                  have BK194 := n3_
                  have HB := n4_
                  clear n0_ n1_ n2_ n3_ n4_
                  obtain ⟨Ao51, co51, eo51⟩ := Kd.R_slice HO_195000.out
                  (first | subst eo51 | (injection eo51 with f1_ f2_ f3_; have f4_ := f1_.symm; have f5_ := f3_.symm; clear f1_ f2_ f3_; subst f4_; subst f5_))
                  have p216 : 0 ≤ (x9_3 : Int) := of_decide_eq_true (by first | (with_reducible assumption) | assumption)
                  have q216 : x9_3 < (x195000_3.length : Int) := of_decide_eq_true (by first | (with_reducible assumption) | assumption)
                  obtain ⟨ad216, e216, hx216_0⟩ := Kd.at_int (Kd.R_reads' HO_195000.out).2.2 x9_3 p216 q216
                  cases e216
                  replace p216 := eq_true p216
                  replace q216 := eq_true q216
                  refine start_ (n := 13) (S := fun w' => w'.cell? ⟨gb194, 0, none⟩ = some (.slice (some ad216) x195000_3.length co51) ∧ w'.cell? ⟨gb194, 1, none⟩ = some (u195001) ∧ w'.cell? ⟨gb194, 2, none⟩ = some (.int .i64 x195002_29) ∧ w'.cell? (ad216.add (x9_3).toNat) = some (.int .i64 (rd x195000_3 x9_3))) (ds := [12]) #[false, false, false, false, false, false, false, false, false, false, false, false, false] (by kernel_rfl) rfl rfl ⟨(blk_cell BK194.out 0).trans rfl, (blk_cell BK194.out 1).trans rfl, (blk_cell BK194.out 2).trans rfl, hx216_0⟩ (fun hHeld => ?_); refine with_tabW earshotref10_Bins.tab18 earshotref10_Bins.bits18 (fun HT_ HW_ => ?_)
                  generalize wr.drew = w50 at HO_195000 HO_195001 BK192 BK194 HB hx216_0 hHeld ⊢
                  refine pure_ (i := 0) (N := some 60) (v := ?_) (a' := ?_) #[true, false, false, false, false, false, false, false, false, false, false, false, false] rfl rfl (any_of HT_.out (by kernel_rfl)) (fun _ _ _ h => h) (Or.inl ⟨by rfl, ?_⟩) ?_ ?_
                  rotate_left
                  ·
                   intro w'
                   go_simp
                   with_reducible rfl
                  rotate_left
                  ·
                   simp only [Act.put, List.setIfInBounds_toArray, List.set_cons_zero, List.set_cons_succ, i64_w, i32_w]
                   rfl
                  refine pure_ (i := 2) (N := some 62) (v := ?_) (a' := ?_) #[true, false, true, false, false, false, false, false, false, false, false, false, false] rfl rfl (any_of HT_.out (by kernel_rfl)) (fun _ _ _ h => h) (Or.inl ⟨by rfl, ?_⟩) ?_ ?_
                  rotate_left
                  ·
                   intro w'
                   go_simp
                   with_reducible rfl
                  rotate_left
                  ·
                   simp only [Act.put, List.setIfInBounds_toArray, List.set_cons_zero, List.set_cons_succ, i64_w, i32_w]
                   rfl
                  refine pure_ (i := 3) (N := some 63) (v := ?_) (a' := ?_) #[true, false, true, true, false, false, false, false, false, false, false, false, false] rfl rfl (any_of HT_.out (by kernel_rfl)) (fun _ _ _ h => h) (Or.inl ⟨by rfl, ?_⟩) ?_ ?_
                  rotate_left
                  ·
                   intro w'
                   go_simp
                   with_reducible rfl
                  rotate_left
                  ·
                   simp only [Act.put, List.setIfInBounds_toArray, List.set_cons_zero, List.set_cons_succ, i64_w, i32_w]
                   rfl
                  refine pure_ (i := 5) (N := some 65) (v := ?_) (a' := ?_) #[true, false, true, true, false, true, false, false, false, false, false, false, false] rfl rfl (any_of HT_.out (by kernel_rfl)) (fun _ _ _ h => h) (Or.inl ⟨by rfl, ?_⟩) ?_ ?_
                  rotate_left
                  ·
                   intro w'
                   go_simp
                   with_reducible rfl
                  rotate_left
                  ·
                   simp only [Act.put, List.setIfInBounds_toArray, List.set_cons_zero, List.set_cons_succ, i64_w, i32_w]
                   rfl
                  refine pure_ (i := 8) (N := some 68) (v := ?_) (a' := ?_) #[true, false, true, true, false, true, false, false, true, false, false, false, false] rfl rfl (any_of HT_.out (by kernel_rfl)) (fun _ _ _ h => h) (Or.inl ⟨by rfl, ?_⟩) ?_ ?_
                  rotate_left
                  ·
                   intro w'
                   go_simp
                   with_reducible rfl
                  rotate_left
                  ·
                   simp only [Act.put, List.setIfInBounds_toArray, List.set_cons_zero, List.set_cons_succ, i64_w, i32_w]
                   rfl
                  refine take_ (i := 1) (N := some 61) (v := ?_) (a' := ?_) #[true, true, true, true, false, true, false, false, true, false, false, false, false] rfl rfl (take_ofW HT_.out HW_.out (by kernel_rfl)) (fun _ _ _ h => h) (Or.inl ⟨by rfl, ?_⟩) hHeld ?_ ?_
                  rotate_left
                  ·
                   rintro w' ⟨s0, s1, s2, s3⟩
                   go_simp
                   with_reducible rfl
                  rotate_left
                  ·
                   simp only [Act.put, List.setIfInBounds_toArray, List.set_cons_zero, List.set_cons_succ, i64_w, i32_w]
                   rfl
                  refine take_ (i := 4) (N := some 64) (v := ?_) (a' := ?_) #[true, true, true, true, true, true, false, false, true, false, false, false, false] rfl rfl (take_ofW HT_.out HW_.out (by kernel_rfl)) (fun _ _ _ h => h) (Or.inl ⟨by rfl, ?_⟩) hHeld ?_ ?_
                  rotate_left
                  ·
                   rintro w' ⟨s0, s1, s2, s3⟩
                   go_simp
                   with_reducible rfl
                  rotate_left
                  ·
                   simp only [Act.put, List.setIfInBounds_toArray, List.set_cons_zero, List.set_cons_succ, i64_w, i32_w]
                   rfl
                  refine pure_ (i := 6) (N := some 66) (v := ?_) (a' := ?_) #[true, true, true, true, true, true, true, false, true, false, false, false, false] rfl rfl (any_of HT_.out (by kernel_rfl)) (fun _ _ _ h => h) (Or.inl ⟨by rfl, ?_⟩) ?_ ?_
                  rotate_left
                  ·
                   intro w'
                   go_simp
                   with_reducible rfl
                  rotate_left
                  ·
                   simp only [Act.put, List.setIfInBounds_toArray, List.set_cons_zero, List.set_cons_succ, i64_w, i32_w]
                   rfl
                  refine take_ (i := 7) (N := some 67) (v := ?_) (a' := ?_) #[true, true, true, true, true, true, true, true, true, false, false, false, false] rfl rfl (take_ofW HT_.out HW_.out (by kernel_rfl)) (fun _ _ _ h => h) (Or.inl ⟨by rfl, ?_⟩) hHeld ?_ ?_
                  rotate_left
                  ·
                   rintro w' ⟨s0, s1, s2, s3⟩
                   go_simp
                   with_reducible rfl
                  rotate_left
                  ·
                   simp only [Act.put, List.setIfInBounds_toArray, List.set_cons_zero, List.set_cons_succ, i64_w, i32_w]
                   rfl
                  refine take_ (i := 9) (N := some 69) (v := ?_) (a' := ?_) #[true, true, true, true, true, true, true, true, true, true, false, false, false] rfl rfl (take_ofW HT_.out HW_.out (by kernel_rfl)) (fun _ _ _ h => h) (Or.inl ⟨by rfl, ?_⟩) hHeld ?_ ?_
                  rotate_left
                  ·
                   rintro w' ⟨s0, s1, s2, s3⟩
                   go_simp
                   with_reducible rfl
                  rotate_left
                  ·
                   simp only [Act.put, List.setIfInBounds_toArray, List.set_cons_zero, List.set_cons_succ, i64_w, i32_w]
                   rfl
                  refine one_ (i := 10) (N := some 70) #[true, true, true, true, true, true, true, true, true, true, true, false, false] rfl rfl (one_of HT_.out (by kernel_rfl)) (by decide) (fun K hK => ?_)
                  refine goes_ Tryd.func56 (by kernel_rfl) rfl #[.int .i64 (rd x195000_3 x9_3), .int .i64 x195002_29] (by first | rfl | exact wanted_on rfl rfl rfl (by first | assumption | rfl | (simp [*]; done))) rfl rfl (by (try simp only [List.map_toArray, List.map_cons, List.map_nil]); first | done | rfl | (simp only [List.length_drop, List.length_take]; rfl)) ?_
                  with_reducible refine (earshotref02_Half.calls k3 (rd x195000_3 x9_3) x195002_29 t217 _ A45.out).mono ?_
                  rintro e w' ⟨rfl, ⟨nd, rfl⟩⟩
                  refine ⟨_, rfl, ?_⟩
                  have n_HO_195000 := Aside0.mk (Kd.R_drewN HO_195000.out nd)
                  have n_HO_195001 := Aside0.mk (Kd.R_drewN HO_195001.out nd)
                  have n_BK192 := Aside0.mk (blk_drewN BK192.out nd)
                  have n_BK194 := Aside0.mk (blk_drewN BK194.out nd)
                  have n_HB := Aside0.mk (pw_below_drewN HB.out nd)
                  have n_hx216_0 := pw_cell_below (pw_below_drewN (Below.refl _ _) nd) hx216_0
                  have n_hHeld := And.intro (pw_cell_below (pw_below_drewN (Below.refl _ _) nd) hHeld.1) (And.intro (pw_cell_below (pw_below_drewN (Below.refl _ _) nd) hHeld.2.1) (And.intro (pw_cell_below (pw_below_drewN (Below.refl _ _) nd) hHeld.2.2.1) (pw_cell_below (pw_below_drewN (Below.refl _ _) nd) hHeld.2.2.2)))
                  clear HO_195000 HO_195001 BK192 BK194 HB hx216_0 hHeld
                  have HO_195000 := n_HO_195000
                  have HO_195001 := n_HO_195001
                  have BK192 := n_BK192
                  have BK194 := n_BK194
                  have HB := n_HB
                  have hx216_0 := n_hx216_0
                  have hHeld := n_hHeld
                  clear n_HO_195000 n_HO_195001 n_BK192 n_BK194 n_HB n_hx216_0 n_hHeld
                  generalize w50.drewN nd = w50 at HO_195000 HO_195001 BK192 BK194 HB hx216_0 hHeld ⊢
                  have p46 : 0 ≤ (x9_3 : Int) := of_decide_eq_true (by first | (with_reducible assumption) | assumption)
                  have q46 : (x9_3 : Int) < ((x195000_3.length : Int) : Int) := of_decide_eq_true (by first | (with_reducible assumption) | assumption)
                  obtain ⟨go46, co46, eo46, gb46, gl46, cl46, HG46⟩ := Kd.R_form HO_195000.out (by omega)
                  (first | cases eo46 | (injection eo46 with ea_ en_ ec_; (first | subst ea_ | (injection ea_ with ea_; subst ea_)); subst ec_; clear en_))
                  have GB46 := Aside0.mk gb46
                  have GG46 := Aside0.mk HG46
                  clear gb46 gl46 HG46
                  (first | simp only [add_plain] at hx216_0 | skip)
                  obtain ⟨hx46_0, hf46_0⟩ := Kd.R_celln 0 HO_195000.out (x9_3 : Int) p46 q46
                  replace p46 := eq_true p46
                  replace q46 := eq_true q46
                  have HP52 := Kd.R_putn HO_195000.out (x9_3 : Int) t217
                  rw [← Ny218.out] at HP52
                  have HQ52 := Aside0.mk HP52
                  clear HP52
                  refine hK.out _ _ ⟨(blk_cell BK194.out 0).trans rfl, (blk_cell BK194.out 1).trans rfl, (blk_cell BK194.out 2).trans rfl, hHeld.2.2.2⟩ (fun hHeld => ?_)
                  clear hK K
                  refine norm_ (a' := ?_) ?_ ?_
                  rotate_left
                  ·
                   show Act.put _ (some 70) _ = _
                   simp only [Act.put, List.setIfInBounds_toArray, List.set_cons_zero, List.set_cons_succ, i64_w, i32_w]
                   rfl
                  refine pure_ (i := 11) (N := some 71) (v := ?_) (a' := ?_) #[true, true, true, true, true, true, true, true, true, true, true, true, false] rfl rfl (any_of HT_.out (by kernel_rfl)) (fun _ _ _ h => h) (Or.inl ⟨by rfl, ?_⟩) ?_ ?_
                  rotate_left
                  ·
                   intro w'
                   go_simp
                   with_reducible rfl
                  rotate_left
                  ·
                   simp only [Act.put, List.setIfInBounds_toArray, List.set_cons_zero, List.set_cons_succ, i64_w, i32_w]
                   rfl
                  refine last_ (i := 12) (N := none) #[true, true, true, true, true, true, true, true, true, true, true, true, true] rfl rfl (one_of HT_.out (by kernel_rfl)) (by decide) (fun K hK => ?_)
                  refine skip_ (w1 := ?_) (by rfl) rfl ?_ ?_
                  rotate_left
                  ·
                   go_simp
                   rfl
                  refine hK.out _ _ ?_
                  clear hK K
                  refine done_ (done_of HT_.out (by kernel_rfl)) ?_
                  try go_wp2
                  have n0_ : Aside0 (Kd.R (Kd.int .i64) 3 (w50.setCell ⟨go46, (x9_3 : Int).toNat, none⟩ (.int .i64 t217)) w.heap.size (fun k_ => some k_ ≠ (u195001 : Value).ownBlock) (.slice (some ⟨go46, 0, none⟩) x195000_3.length co51) y218) := ⟨by (with_reducible repeat (first | apply Kd.R_alloc | apply Kd.R_drewN | apply Kd.R_drew)); exact HQ52.out⟩
                  have n1_ : Aside0 (Kd.R (Kd.int .i64) 3 (w50.setCell ⟨go46, (x9_3 : Int).toNat, none⟩ (.int .i64 t217)) w.heap.size (fun k_ => some k_ ≠ (.slice (some ⟨go46, 0, none⟩) x195000_3.length co51 : Value).ownBlock) u195001 x195001_3) := ⟨by (with_reducible repeat (first | apply Kd.R_alloc | apply Kd.R_drewN | apply Kd.R_drew)); exact Kd.R_mono (Kd.R_far (p := ⟨go46, (x9_3 : Int).toNat, none⟩) (Kd.R_mono HO_195001.out (fun k_ hk => (⟨hk, fun e_ => hk (by rw [e_]; rfl)⟩ : _ ∧ k_ ≠ go46))) (fun _ hk => hk.2) (.int .i64 t217)) (fun _ hk => hk.1)⟩
                  have n2_ : Aside0 ((w50.setCell ⟨go46, (x9_3 : Int).toNat, none⟩ (.int .i64 t217)).heap[gb192]? = some (.cells #[.slice none 0 0, .slice none 0 0, .int .i64 0] 80 (0, 0))) := ⟨by (with_reducible repeat (first | refine blk_drewN ?_ _ | refine blk_drew ?_ | refine blk_alloc ?_ _)); refine blk_far ?_ (by have h_ := Kd.R_ne HO_195000.out BK192.out (by decide); intro e_; exact h_ (by rw [e_]; rfl)) _; (with_reducible repeat (first | refine blk_drewN ?_ _ | refine blk_drew ?_ | refine blk_alloc ?_ _)); exact BK192.out⟩
                  have n3_ : Aside0 ((w50.setCell ⟨go46, (x9_3 : Int).toNat, none⟩ (.int .i64 t217)).heap[gb194]? = some (.cells #[.slice (some ⟨go46, 0, none⟩) x195000_3.length co51, u195001, .int .i64 x195002_29] 80 (0, 0))) := ⟨by (with_reducible repeat (first | refine blk_drewN ?_ _ | refine blk_drew ?_ | refine blk_alloc ?_ _)); refine blk_far ?_ (by have h_ := Kd.R_ne HO_195000.out BK194.out (by decide); intro e_; exact h_ (by rw [e_]; rfl)) _; (with_reducible repeat (first | refine blk_drewN ?_ _ | refine blk_drew ?_ | refine blk_alloc ?_ _)); exact BK194.out⟩
                  have n4_ : Aside0 (Below w.heap.size w (w50.setCell ⟨go46, (x9_3 : Int).toNat, none⟩ (.int .i64 t217))) := ⟨by repeat (first | (with_reducible first | exact HB.out | apply below_alloc | apply pw_below_drewN | apply below_drew1 | refine below_set ?_ GB46.out | refine below_set ?_ GE192.out | refine below_set ?_ GE194.out) | exact HB.out)⟩
                  (try clear HO_195000)
                  (try clear HO_195001)
                  (try clear BK192)
                  (try clear BK194)
                  (try clear HB)
                  generalize (w50.setCell ⟨go46, (x9_3 : Int).toNat, none⟩ (.int .i64 t217)) = w53 at n0_ n1_ n2_ n3_ n4_ ⊢
                  have HO_195000 := n0_
                  have HO_195001 := n1_
                  have BK192 := n2_
                  have BK194 := n3_
                  have HB := n4_
                  clear n0_ n1_ n2_ n3_ n4_
                  (try (rw [drewN_self w53]; generalize hq_ : World.drewN w53 _ = w53; have n0_ : Aside0 (Kd.R (Kd.int .i64) 3 w53 w.heap.size (fun k_ => some k_ ≠ (u195001 : Value).ownBlock) (.slice (some ⟨go46, 0, none⟩) x195000_3.length co51) y218) := ⟨by rw [← hq_]; exact (by (with_reducible repeat (first | apply Kd.R_alloc | apply Kd.R_drewN | apply Kd.R_drew)); (first | exact HO_195000.out | exact Kd.R_mono HO_195000.out (fun _ _ => trivial) | exact Kd.R_mono HO_195000.out (fun _ hk => hk.1)))⟩; have n1_ : Aside0 (Kd.R (Kd.int .i64) 3 w53 w.heap.size (fun k_ => some k_ ≠ (.slice (some ⟨go46, 0, none⟩) x195000_3.length co51 : Value).ownBlock) u195001 x195001_3) := ⟨by rw [← hq_]; exact (by (with_reducible repeat (first | apply Kd.R_alloc | apply Kd.R_drewN | apply Kd.R_drew)); (first | exact HO_195001.out | exact Kd.R_mono HO_195001.out (fun _ _ => trivial) | exact Kd.R_mono HO_195001.out (fun _ hk => hk.1)))⟩; have n2_ : Aside0 (w53.heap[gb192]? = some (.cells #[.slice none 0 0, .slice none 0 0, .int .i64 0] 80 (0, 0))) := ⟨by rw [← hq_]; exact (by (with_reducible repeat (first | refine blk_drewN ?_ _ | refine blk_drew ?_ | refine blk_alloc ?_ _)); exact BK192.out)⟩; have n3_ : Aside0 (w53.heap[gb194]? = some (.cells #[.slice (some ⟨go46, 0, none⟩) x195000_3.length co51, u195001, .int .i64 x195002_29] 80 (0, 0))) := ⟨by rw [← hq_]; exact (by (with_reducible repeat (first | refine blk_drewN ?_ _ | refine blk_drew ?_ | refine blk_alloc ?_ _)); exact BK194.out)⟩; have n4_ : Aside0 (Below w.heap.size w w53) := ⟨by rw [← hq_]; exact (by repeat (first | (with_reducible first | exact HB.out | apply below_alloc | apply pw_below_drewN | apply below_drew1 | refine below_set ?_ GE192.out | refine below_set ?_ GE194.out) | exact HB.out))⟩; clear HO_195000 HO_195001 BK192 BK194 HB hq_; have HO_195000 := n0_; have HO_195001 := n1_; have BK192 := n2_; have BK194 := n3_; have HB := n4_; clear n0_ n1_ n2_ n3_ n4_))
                  have n0_ := Aside0.mk (Kd.R_drew HO_195000.out)
                  have n1_ := Aside0.mk (Kd.R_drew HO_195001.out)
                  have n2_ := Aside0.mk (blk_drew BK192.out)
                  have n3_ := Aside0.mk (blk_drew BK194.out)
                  have n4_ := Aside0.mk (below_drew1 HB.out)
                  clear HO_195000
                  clear HO_195001
                  clear BK192
                  clear BK194
                  clear HB
                  have HO_195000 := n0_
                  have HO_195001 := n1_
                  have BK192 := n2_
                  have BK194 := n3_
                  have HB := n4_
                  clear n0_ n1_ n2_ n3_ n4_
                  obtain ⟨Ao55, co55, eo55⟩ := Kd.R_slice HO_195001.out
                  (first | subst eo55 | (injection eo55 with f1_ f2_ f3_; have f4_ := f1_.symm; have f5_ := f3_.symm; clear f1_ f2_ f3_; subst f4_; subst f5_))
                  have p219 : 0 ≤ (x9_3 : Int) := of_decide_eq_true (by first | (with_reducible assumption) | assumption)
                  have q219 : x9_3 < (x195001_3.length : Int) := of_decide_eq_true (by first | (with_reducible assumption) | assumption)
                  obtain ⟨ad219, e219, hx219_0⟩ := Kd.at_int (Kd.R_reads' HO_195001.out).2.2 x9_3 p219 q219
                  cases e219
                  replace p219 := eq_true p219
                  replace q219 := eq_true q219
                  refine start_ (n := 13) (S := fun w' => w'.cell? ⟨gb194, 0, none⟩ = some (.slice (some ⟨go46, 0, none⟩) x195000_3.length co51) ∧ w'.cell? ⟨gb194, 1, none⟩ = some (.slice (some ad219) x195001_3.length co55) ∧ w'.cell? ⟨gb194, 2, none⟩ = some (.int .i64 x195002_29) ∧ w'.cell? (ad219.add (x9_3).toNat) = some (.int .i64 (rd x195001_3 x9_3))) (ds := [12]) #[false, false, false, false, false, false, false, false, false, false, false, false, false] (by kernel_rfl) rfl rfl ⟨(blk_cell BK194.out 0).trans rfl, (blk_cell BK194.out 1).trans rfl, (blk_cell BK194.out 2).trans rfl, hx219_0⟩ (fun hHeld => ?_); refine with_tabW earshotref10_Bins.tab19 earshotref10_Bins.bits19 (fun HT_ HW_ => ?_)
                  generalize w53.drew = w54 at HO_195000 HO_195001 BK192 BK194 HB HQ52 hx219_0 hHeld ⊢
                  refine pure_ (i := 0) (N := some 72) (v := ?_) (a' := ?_) #[true, false, false, false, false, false, false, false, false, false, false, false, false] rfl rfl (any_of HT_.out (by kernel_rfl)) (fun _ _ _ h => h) (Or.inl ⟨by rfl, ?_⟩) ?_ ?_
                  rotate_left
                  ·
                   intro w'
                   go_simp
                   with_reducible rfl
                  rotate_left
                  ·
                   simp only [Act.put, List.setIfInBounds_toArray, List.set_cons_zero, List.set_cons_succ, i64_w, i32_w]
                   rfl
                  refine pure_ (i := 2) (N := some 74) (v := ?_) (a' := ?_) #[true, false, true, false, false, false, false, false, false, false, false, false, false] rfl rfl (any_of HT_.out (by kernel_rfl)) (fun _ _ _ h => h) (Or.inl ⟨by rfl, ?_⟩) ?_ ?_
                  rotate_left
                  ·
                   intro w'
                   go_simp
                   with_reducible rfl
                  rotate_left
                  ·
                   simp only [Act.put, List.setIfInBounds_toArray, List.set_cons_zero, List.set_cons_succ, i64_w, i32_w]
                   rfl
                  refine pure_ (i := 3) (N := some 75) (v := ?_) (a' := ?_) #[true, false, true, true, false, false, false, false, false, false, false, false, false] rfl rfl (any_of HT_.out (by kernel_rfl)) (fun _ _ _ h => h) (Or.inl ⟨by rfl, ?_⟩) ?_ ?_
                  rotate_left
                  ·
                   intro w'
                   go_simp
                   with_reducible rfl
                  rotate_left
                  ·
                   simp only [Act.put, List.setIfInBounds_toArray, List.set_cons_zero, List.set_cons_succ, i64_w, i32_w]
                   rfl
                  refine pure_ (i := 5) (N := some 77) (v := ?_) (a' := ?_) #[true, false, true, true, false, true, false, false, false, false, false, false, false] rfl rfl (any_of HT_.out (by kernel_rfl)) (fun _ _ _ h => h) (Or.inl ⟨by rfl, ?_⟩) ?_ ?_
                  rotate_left
                  ·
                   intro w'
                   go_simp
                   with_reducible rfl
                  rotate_left
                  ·
                   simp only [Act.put, List.setIfInBounds_toArray, List.set_cons_zero, List.set_cons_succ, i64_w, i32_w]
                   rfl
                  refine pure_ (i := 8) (N := some 80) (v := ?_) (a' := ?_) #[true, false, true, true, false, true, false, false, true, false, false, false, false] rfl rfl (any_of HT_.out (by kernel_rfl)) (fun _ _ _ h => h) (Or.inl ⟨by rfl, ?_⟩) ?_ ?_
                  rotate_left
                  ·
                   intro w'
                   go_simp
                   with_reducible rfl
                  rotate_left
                  ·
                   simp only [Act.put, List.setIfInBounds_toArray, List.set_cons_zero, List.set_cons_succ, i64_w, i32_w]
                   rfl
                  refine take_ (i := 1) (N := some 73) (v := ?_) (a' := ?_) #[true, true, true, true, false, true, false, false, true, false, false, false, false] rfl rfl (take_ofW HT_.out HW_.out (by kernel_rfl)) (fun _ _ _ h => h) (Or.inl ⟨by rfl, ?_⟩) hHeld ?_ ?_
                  rotate_left
                  ·
                   rintro w' ⟨s0, s1, s2, s3⟩
                   go_simp
                   with_reducible rfl
                  rotate_left
                  ·
                   simp only [Act.put, List.setIfInBounds_toArray, List.set_cons_zero, List.set_cons_succ, i64_w, i32_w]
                   rfl
                  refine take_ (i := 4) (N := some 76) (v := ?_) (a' := ?_) #[true, true, true, true, true, true, false, false, true, false, false, false, false] rfl rfl (take_ofW HT_.out HW_.out (by kernel_rfl)) (fun _ _ _ h => h) (Or.inl ⟨by rfl, ?_⟩) hHeld ?_ ?_
                  rotate_left
                  ·
                   rintro w' ⟨s0, s1, s2, s3⟩
                   go_simp
                   with_reducible rfl
                  rotate_left
                  ·
                   simp only [Act.put, List.setIfInBounds_toArray, List.set_cons_zero, List.set_cons_succ, i64_w, i32_w]
                   rfl
                  refine pure_ (i := 6) (N := some 78) (v := ?_) (a' := ?_) #[true, true, true, true, true, true, true, false, true, false, false, false, false] rfl rfl (any_of HT_.out (by kernel_rfl)) (fun _ _ _ h => h) (Or.inl ⟨by rfl, ?_⟩) ?_ ?_
                  rotate_left
                  ·
                   intro w'
                   go_simp
                   with_reducible rfl
                  rotate_left
                  ·
                   simp only [Act.put, List.setIfInBounds_toArray, List.set_cons_zero, List.set_cons_succ, i64_w, i32_w]
                   rfl
                  refine take_ (i := 7) (N := some 79) (v := ?_) (a' := ?_) #[true, true, true, true, true, true, true, true, true, false, false, false, false] rfl rfl (take_ofW HT_.out HW_.out (by kernel_rfl)) (fun _ _ _ h => h) (Or.inl ⟨by rfl, ?_⟩) hHeld ?_ ?_
                  rotate_left
                  ·
                   rintro w' ⟨s0, s1, s2, s3⟩
                   go_simp
                   with_reducible rfl
                  rotate_left
                  ·
                   simp only [Act.put, List.setIfInBounds_toArray, List.set_cons_zero, List.set_cons_succ, i64_w, i32_w]
                   rfl
                  refine take_ (i := 9) (N := some 81) (v := ?_) (a' := ?_) #[true, true, true, true, true, true, true, true, true, true, false, false, false] rfl rfl (take_ofW HT_.out HW_.out (by kernel_rfl)) (fun _ _ _ h => h) (Or.inl ⟨by rfl, ?_⟩) hHeld ?_ ?_
                  rotate_left
                  ·
                   rintro w' ⟨s0, s1, s2, s3⟩
                   go_simp
                   with_reducible rfl
                  rotate_left
                  ·
                   simp only [Act.put, List.setIfInBounds_toArray, List.set_cons_zero, List.set_cons_succ, i64_w, i32_w]
                   rfl
                  refine one_ (i := 10) (N := some 82) #[true, true, true, true, true, true, true, true, true, true, true, false, false] rfl rfl (one_of HT_.out (by kernel_rfl)) (by decide) (fun K hK => ?_)
                  refine goes_ Tryd.func56 (by kernel_rfl) rfl #[.int .i64 (rd x195001_3 x9_3), .int .i64 x195002_29] (by first | rfl | exact wanted_on rfl rfl rfl (by first | assumption | rfl | (simp [*]; done))) rfl rfl (by (try simp only [List.map_toArray, List.map_cons, List.map_nil]); first | done | rfl | (simp only [List.length_drop, List.length_take]; rfl)) ?_
                  with_reducible refine (earshotref02_Half.calls k3 (rd x195001_3 x9_3) x195002_29 t220 _ A48.out).mono ?_
                  rintro e w' ⟨rfl, ⟨nd, rfl⟩⟩
                  refine ⟨_, rfl, ?_⟩
                  have p49 : 0 ≤ (x9_3 : Int) := of_decide_eq_true (by first | (with_reducible assumption) | assumption)
                  have q49 : (x9_3 : Int) < ((x195001_3.length : Int) : Int) := of_decide_eq_true (by first | (with_reducible assumption) | assumption)
                  obtain ⟨go49, co49, eo49, gb49, gl49, cl49, HG49⟩ := Kd.R_form HO_195001.out (by omega)
                  (first | cases eo49 | (injection eo49 with ea_ en_ ec_; (first | subst ea_ | (injection ea_ with ea_; subst ea_)); subst ec_; clear en_))
                  have GB49 := Aside0.mk gb49
                  have GG49 := Aside0.mk HG49
                  clear gb49 gl49 HG49
                  (first | simp only [add_plain] at hx219_0 | skip)
                  obtain ⟨hx49_0, hf49_0⟩ := Kd.R_celln 0 HO_195001.out (x9_3 : Int) p49 q49
                  replace p49 := eq_true p49
                  replace q49 := eq_true q49
                  have HP56 := Kd.R_putn HO_195001.out (x9_3 : Int) t220
                  rw [← Ny221.out] at HP56
                  have HQ56 := Aside0.mk HP56
                  clear HP56
                  refine hK.out _ _ ⟨(blk_cell BK194.out 0).trans rfl, (blk_cell BK194.out 1).trans rfl, (blk_cell BK194.out 2).trans rfl, hHeld.2.2.2⟩ (fun hHeld => ?_)
                  clear hK K
                  refine norm_ (a' := ?_) ?_ ?_
                  rotate_left
                  ·
                   show Act.put _ (some 82) _ = _
                   simp only [Act.put, List.setIfInBounds_toArray, List.set_cons_zero, List.set_cons_succ, i64_w, i32_w]
                   rfl
                  refine pure_ (i := 11) (N := some 83) (v := ?_) (a' := ?_) #[true, true, true, true, true, true, true, true, true, true, true, true, false] rfl rfl (any_of HT_.out (by kernel_rfl)) (fun _ _ _ h => h) (Or.inl ⟨by rfl, ?_⟩) ?_ ?_
                  rotate_left
                  ·
                   intro w'
                   go_simp
                   with_reducible rfl
                  rotate_left
                  ·
                   simp only [Act.put, List.setIfInBounds_toArray, List.set_cons_zero, List.set_cons_succ, i64_w, i32_w]
                   rfl
                  refine last_ (i := 12) (N := none) #[true, true, true, true, true, true, true, true, true, true, true, true, true] rfl rfl (one_of HT_.out (by kernel_rfl)) (by decide) (fun K hK => ?_)
                  refine skip_ (w1 := ?_) (by rfl) rfl ?_ ?_
                  rotate_left
                  ·
                   go_simp
                   rfl
                  refine hK.out _ _ ?_
                  clear hK K
                  refine done_ (done_of HT_.out (by kernel_rfl)) ?_
                  try go_wp2
                  go_roundg k3
                  case measure => have := HK1.out; have := HJ29.out; have := HK3.out; omega
                  case rel => exact ⟨(wrap64 (x9_3 + 1)), (y218), (y221), (.slice (some ⟨go46, 0, none⟩) x195000_3.length co51), (.slice (some ⟨go49, 0, none⟩) x195001_3.length co55), (by first | rfl | (simp; done) | (simp [*]; done)), H', ⟨by have := HK1.out; have := HJ29.out; have := HK3.out; omega⟩, ⟨by (with_reducible repeat (first | apply Kd.R_alloc | apply Kd.R_drewN | apply Kd.R_drew)); exact Kd.R_mono (Kd.R_far (p := ⟨go49, (x9_3 : Int).toNat, none⟩) (Kd.R_mono HO_195000.out (fun k_ hk => (⟨hk, fun e_ => hk (by rw [e_]; rfl)⟩ : _ ∧ k_ ≠ go49))) (fun _ hk => hk.2) (.int .i64 t220)) (fun _ hk => hk.1)⟩, ⟨by (with_reducible repeat (first | apply Kd.R_alloc | apply Kd.R_drewN | apply Kd.R_drew)); exact HQ56.out⟩, ⟨by (with_reducible repeat (first | refine blk_drewN ?_ _ | refine blk_drew ?_ | refine blk_alloc ?_ _)); refine blk_far ?_ (by have h_ := Kd.R_ne HO_195001.out BK192.out (by decide); intro e_; exact h_ (by rw [e_]; rfl)) _; (with_reducible repeat (first | refine blk_drewN ?_ _ | refine blk_drew ?_ | refine blk_alloc ?_ _)); exact BK192.out⟩, ⟨by (with_reducible repeat (first | refine blk_drewN ?_ _ | refine blk_drew ?_ | refine blk_alloc ?_ _)); refine blk_far ?_ (by have h_ := Kd.R_ne HO_195001.out BK194.out (by decide); intro e_; exact h_ (by rw [e_]; rfl)) _; (with_reducible repeat (first | refine blk_drewN ?_ _ | refine blk_drew ?_ | refine blk_alloc ?_ _)); exact BK194.out⟩, ⟨by repeat (first | (with_reducible first | exact HB.out | apply below_alloc | apply pw_below_drewN | apply below_drew1 | refine below_set ?_ GB49.out | refine below_set ?_ GE192.out | refine below_set ?_ GE194.out) | exact HB.out)⟩⟩
                 ·
                  rw [if_neg c47] at H
                  exact absurd H (by simp)
                ·
                 rw [if_neg c44] at H
                 exact absurd H (by simp)
               ·
                rw [if_neg c43] at H
                exact absurd H (by simp)
              ·
               rw [if_neg c42] at H
               have c42b0 : decide (x9_3 ≤ (wrap64 (Int.tdiv (l0.length : Int) 2))) = false := decide_eq_false c42
               have c42b0q : decide (x9_3 ≤ (wrap64 ((l0.length : Int) / 2))) = false := by rw [← Int.tdiv_eq_ediv_of_nonneg (show (0 : Int) ≤ (l0.length : Int) by omega)]; exact c42b0
               clear c42
               simp only [Option.some.injEq, Prod.mk.injEq] at H
               obtain ⟨rfl, rfl, rfl⟩ := H
               have hnb57 := NB194_192.out
               have hnc57 := NB192_194.out
               have hcz58_0 : wr.cell? ⟨gb194, 0, none⟩ = some (u195000) := (blk_cell BK194.out 0).trans rfl
               have hcz58_1 : wr.cell? ⟨gb194, 1, none⟩ = some (u195001) := (blk_cell BK194.out 1).trans rfl
               have hcz58_2 : wr.cell? ⟨gb194, 2, none⟩ = some (.int .i64 x195002_29) := (blk_cell BK194.out 2).trans rfl
               have hfz58_0 := blk_frozen BK194.out 0
               have hfz58_1 := blk_frozen BK194.out 1
               have hfz58_2 := blk_frozen BK194.out 2
               obtain ⟨Ao59, co59, eo59⟩ := Kd.R_slice HO_195000.out
               subst eo59
               have hcz60_0 : wr.cell? ⟨gb192, 0, none⟩ = some (.slice none 0 0) := (blk_cell BK192.out 0).trans rfl
               have hcz60_1 : wr.cell? ⟨gb192, 1, none⟩ = some (.slice none 0 0) := (blk_cell BK192.out 1).trans rfl
               have hcz60_2 : wr.cell? ⟨gb192, 2, none⟩ = some (.int .i64 0) := (blk_cell BK192.out 2).trans rfl
               have hfz60_0 := blk_frozen BK192.out 0
               have hfz60_1 := blk_frozen BK192.out 1
               have hfz60_2 := blk_frozen BK192.out 2
               obtain ⟨Ao61, co61, eo61⟩ := Kd.R_slice HO_195001.out
               subst eo61
               go_wp2
               refine bodyPost_ret (results_cell_row rfl _ _ gb192 80 #[.slice Ao59 x195000_3.length co59, .slice Ao61 x195001_3.length co61, .int .i64 x195002_29] (0, 0) _ rfl (by (with_reducible repeat (first | refine blk_drewN ?_ _ | refine blk_drew ?_ | refine blk_alloc ?_ _)); refine blk_put (cs := #[.slice Ao59 x195000_3.length co59, .slice Ao61 x195001_3.length co61, .int .i64 0]) ?_ 2 _ rfl; (with_reducible repeat (first | refine blk_drewN ?_ _ | refine blk_drew ?_ | refine blk_alloc ?_ _)); refine blk_put (cs := #[.slice Ao59 x195000_3.length co59, .slice none 0 0, .int .i64 0]) ?_ 1 _ rfl; (with_reducible repeat (first | refine blk_drewN ?_ _ | refine blk_drew ?_ | refine blk_alloc ?_ _)); refine blk_put (cs := #[.slice none 0 0, .slice none 0 0, .int .i64 0]) ?_ 0 _ rfl; (with_reducible repeat (first | refine blk_drewN ?_ _ | refine blk_drew ?_ | refine blk_alloc ?_ _)); exact BK192.out) Tryd.underlying80 rfl (by kernel_rfl)) rfl ?_
               exact ⟨_, _, by first | rfl | (simp [errW_none, errW_some] <;> rfl) | (simp [*, errW_none, errW_some] <;> rfl), by (with_reducible repeat (first | apply Kd.R_alloc | apply Kd.R_drewN | apply Kd.R_drew)); exact Kd.R_mono (Kd.R_far (p := ⟨gb192, 2, none⟩) (Kd.R_far (p := ⟨gb192, 1, none⟩) (Kd.R_far (p := ⟨gb192, 0, none⟩) (Kd.R_types HO_195000.out BK192.out (by decide)) (fun _ hk => hk.2) (.slice Ao59 x195000_3.length co59)) (fun _ hk => hk.2) (.slice Ao61 x195001_3.length co61)) (fun _ hk => hk.2) (.int .i64 x195002_29)) (fun _ hk => hk.1), by (with_reducible repeat (first | apply Kd.R_alloc | apply Kd.R_drewN | apply Kd.R_drew)); exact Kd.R_mono (Kd.R_far (p := ⟨gb192, 2, none⟩) (Kd.R_far (p := ⟨gb192, 1, none⟩) (Kd.R_far (p := ⟨gb192, 0, none⟩) (Kd.R_types HO_195001.out BK192.out (by decide)) (fun _ hk => hk.2) (.slice Ao59 x195000_3.length co59)) (fun _ hk => hk.2) (.slice Ao61 x195001_3.length co61)) (fun _ hk => hk.2) (.int .i64 x195002_29)) (fun _ hk => hk.1), by repeat (first | (with_reducible first | exact HB.out | apply below_alloc | apply pw_below_drewN | apply below_drew1 | refine below_set ?_ GE192.out | refine below_set ?_ GE194.out) | exact HB.out)⟩
       ·
        rw [if_neg c28] at H
        exact absurd H (by simp)
      ·
       rw [if_neg c27] at H
       exact absurd H (by simp)
 ·
  replace c3 := Bool.eq_false_iff.mpr c3
  subst c3
  have H1 : (some (([] : List Int), ([] : List Int), 0)) = some (r1, r2, r3) := by rw [if_neg (show ¬ (false = true) by decide)] at H; exact H
  clear H
  have H := H1
  clear H1
  simp only [Option.some.injEq, Prod.mk.injEq] at H
  obtain ⟨rfl, rfl, rfl⟩ := H
  go_enter Tryd.func57, Tryd.ntmps57
  go_wp2_with (first | ((with_reducible refine gate_dst (N := 2) rfl ?_); refine box_event ?hg (N := 2) ?hd (cs := #[.slice none 0 0, .slice none 0 0, .int .i64 0]) (t := 80) ?hr ?_; (case hd => rfl); (case hg => first | rfl | exact wanted_on rfl rfl rfl (by first | assumption | rfl | (simp [*]; done))); (case hr => first | (go_simp; done) | (go_simp; rfl)); intro gb192 hg w62 hbox hb; have n0_ := Aside0.mk (below_step (by repeat (first | (with_reducible first | exact HB.out | apply below_alloc | apply pw_below_drewN | apply below_drew1) | exact HB.out)) hb); have n1_ := Aside0.mk (hbox); have n2_ := Aside0.mk ((by rw [hg]; exact (below_size (by repeat (first | (with_reducible first | exact HB.out | apply below_alloc | apply pw_below_drewN | apply below_drew1) | exact HB.out))) : w.heap.size ≤ gb192)); have n3_ := Aside0.mk ((by rw [hg]; exact (below_size (by repeat (first | (with_reducible first | exact HB.out | apply below_alloc | apply pw_below_drewN | apply below_drew1) | exact HB.out))) : w.heap.size ≤ gb192)); clear HB; have HB := n0_; have BK192 := n1_; have GW192 := n2_; have GE192 := n3_; clear n0_ n1_ n2_ n3_; clear hb hbox hg) | ((with_reducible refine gate_callee (f := 87) rfl ?_); refine goesL_ (some 13) rfl rfl Tryd.func87 (by kernel_rfl) rfl #[.int .i64 (l0.length : Int)] rfl (by (try simp only [List.map_toArray, List.map_cons, List.map_nil]); first | done | rfl | (simp only [List.length_drop, List.length_take]; rfl)) ?_; (with_reducible refine (earshotref10_May.calls (l0.length : Int) false _ A2.out).mono ?_); rintro e w' ⟨rfl, ⟨nd, rfl⟩⟩; refine ⟨_, rfl, ?_⟩; (try (rw [drewN_self w62]; generalize hq_ : World.drewN w62 _ = w62; have n0_ : Aside0 (w62.heap[gb192]? = some (.cells #[.slice none 0 0, .slice none 0 0, .int .i64 0] 80 (0, 0))) := ⟨by rw [← hq_]; exact (by (with_reducible repeat (first | refine blk_drewN ?_ _ | refine blk_drew ?_ | refine blk_alloc ?_ _)); exact BK192.out)⟩; have n1_ : Aside0 (Below w.heap.size w w62) := ⟨by rw [← hq_]; exact (by repeat (first | (with_reducible first | exact HB.out | apply below_alloc | apply pw_below_drewN | apply below_drew1 | refine below_set ?_ GE192.out) | exact HB.out))⟩; clear BK192 HB hq_; have BK192 := n0_; have HB := n1_; clear n0_ n1_)); have hcz63_0 : w62.cell? ⟨gb192, 0, none⟩ = some (.slice none 0 0) := (blk_cell BK192.out 0).trans rfl; have hcz63_1 : w62.cell? ⟨gb192, 1, none⟩ = some (.slice none 0 0) := (blk_cell BK192.out 1).trans rfl; have hcz63_2 : w62.cell? ⟨gb192, 2, none⟩ = some (.int .i64 0) := (blk_cell BK192.out 2).trans rfl; have hfz63_0 := blk_frozen BK192.out 0; have hfz63_1 := blk_frozen BK192.out 1; have hfz63_2 := blk_frozen BK192.out 2))
  refine bodyPost_ret (results_cell_row rfl _ _ gb192 80 #[.slice none 0 0, .slice none 0 0, .int .i64 0] (0, 0) _ rfl (by (with_reducible repeat (first | refine blk_drewN ?_ _ | refine blk_drew ?_ | refine blk_alloc ?_ _)); refine blk_put (cs := #[.slice none 0 0, .slice none 0 0, .int .i64 0]) ?_ 2 _ rfl; (with_reducible repeat (first | refine blk_drewN ?_ _ | refine blk_drew ?_ | refine blk_alloc ?_ _)); refine blk_put (cs := #[.slice none 0 0, .slice none 0 0, .int .i64 0]) ?_ 1 _ rfl; (with_reducible repeat (first | refine blk_drewN ?_ _ | refine blk_drew ?_ | refine blk_alloc ?_ _)); refine blk_put (cs := #[.slice none 0 0, .slice none 0 0, .int .i64 0]) ?_ 0 _ rfl; (with_reducible repeat (first | refine blk_drewN ?_ _ | refine blk_drew ?_ | refine blk_alloc ?_ _)); exact BK192.out) Tryd.underlying80 rfl (by kernel_rfl)) rfl ?_
  exact ⟨_, _, by first | rfl | (simp [errW_none, errW_some] <;> rfl) | (simp [*, errW_none, errW_some] <;> rfl), by first | exact Kd.R_nil _ _ _ _ _ | exact Kd.N_nil _ _ _ _ _ | exact Kd.V_nil _ _ _ _ _ | exact Kd.Q_nil _ _ _ _ _ | exact Kd.S_nil _ _ _ _ _, by first | exact Kd.R_nil _ _ _ _ _ | exact Kd.N_nil _ _ _ _ _ | exact Kd.V_nil _ _ _ _ _ | exact Kd.Q_nil _ _ _ _ _ | exact Kd.S_nil _ _ _ _ _, by repeat (first | (with_reducible first | exact HB.out | apply below_alloc | apply pw_below_drewN | apply below_drew1 | refine below_set ?_ GE192.out) | exact HB.out)⟩
end Go.Proofs.YtmhacdnnnebpdaaDoor.PFrontStream
