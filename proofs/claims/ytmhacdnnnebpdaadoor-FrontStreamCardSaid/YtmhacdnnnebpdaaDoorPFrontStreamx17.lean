-- Written by a program of this work (wip/tools) for this claim; Lean checks it.
import Derived.Test.YtmhacdnnnebpdaaDoorPFrontStreamx16
namespace Go.Proofs.YtmhacdnnnebpdaaDoor.PFrontStream
open Go.RowKit Go.Proofs.YtmhacdnnnebpdaaDoorW.PrintWords Go.Proofs.YtmhacdnnnebpdaaDoorW.PrintLast Go.Proofs.YtmhacdnnnebpdaaDoorW.PrintMore
attribute [local go_sem] max2_int min2_int max_two min_two max_three min_three max_four min_four   -- for this text's walks alone
set_option linter.unusedVariables false
set_option linter.unusedSimpArgs false
mutual
def earshotref13_Frame.j0 : Nat → List Int → Bool → Int → Int → Int → Int → Int → Option (List Int)
 | 0, _, _, _, _, _, _, _ => none
 | k + 1, x1, x29, x240000, x240001, x240002, x240003, x240004 => if x29 = true then (some ([] : List Int)) else ((earshotref04_Window.f k x240000).bind fun t242 => (earshotref13_Frame.l0 k x1 t242 ([] : List Int) 0 x240000 x240001 x240002 x240003 x240004))
def earshotref13_Frame.l0 : Nat → List Int → List Int → List Int → Int → Int → Int → Int → Int → Int → Option (List Int)
 | 0, _, _, _, _, _, _, _, _, _ => none
 | k + 1, x1, x7, x8, x9, x240000, x240001, x240002, x240003, x240004 => if x9 < x240000 then (if 0 ≤ x9 then (if x9 < (x1.length : Int) then (if x9 < (x7.length : Int) then ((earshotref02_Half.f k (wrap64 ((rd x1 x9) * (rd x7 x9))) 14).bind fun t247 => (if x8.length < 17592186044416 then (earshotref13_Frame.l0 k x1 x7 (x8 ++ [t247]) (wrap64 (x9 + 1)) x240000 x240001 x240002 x240003 x240004) else (none))) else (none)) else (none)) else (none)) else ((earshotref10_Bins.f k x8).bind fun bt251 => ((earshotref10_Power.f k bt251.1 bt251.2.1).bind fun t259 => ((earshotref11_Edges.f k (wrap64 ((wrap64 (Int.tdiv x240000 2)) + 1)) x240002).bind fun t262 => ((earshotref11_Bands.f t259 t262).bind fun t265 => ((earshotref12_Logs.f k t265).bind fun t268 => (earshotref13_Frame.l1 k t268 0 x240000 x240001 x240002 x240003 x240004 bt251.1 bt251.2.1 bt251.2.2))))))
def earshotref13_Frame.l1 : Nat → List Int → Int → Int → Int → Int → Int → Int → List Int → List Int → Int → Option (List Int)
 | 0, _, _, _, _, _, _, _, _, _, _ => none
 | k + 1, x11, x12, x240000, x240001, x240002, x240003, x240004, x259000, x259001, x259002 => if x12 < (x11.length : Int) then (if 0 ≤ x12 then (earshotref13_Frame.l1 k (x11.set (x12 : Int).toNat (wrap64 ((rd x11 x12) + (wrap64 (512 * x259002))))) (wrap64 (x12 + 1)) x240000 x240001 x240002 x240003 x240004 x259000 x259001 x259002) else (none)) else ((earshotref12_Dct.f k x240003 x11).bind fun t273 => (some t273))
end
def earshotref13_Frame.f (k : Nat) (a0_0 : Int) (a0_1 : Int) (a0_2 : Int) (a0_3 : Int) (a0_4 : Int) (l1 : List Int) : Option (List Int) := (earshotref13_Right.f a0_0 a0_1 a0_2 a0_3 a0_4).bind fun t240 => ((earshotref13_All.f k l1 (-65536) 65536).bind fun t241 => (if t240 = true then (if t241 = true then (earshotref13_Frame.j0 k l1 ((l1.length : Int) != a0_0) a0_0 a0_1 a0_2 a0_3 a0_4) else (earshotref13_Frame.j0 k l1 true a0_0 a0_1 a0_2 a0_3 a0_4)) else (earshotref13_Frame.j0 k l1 true a0_0 a0_1 a0_2 a0_3 a0_4)))
def earshotref13_Frame.T10 : Bool × List (List Nat × List Nat) := (true, [([], []), ([], []), ([], []), ([1, 2], [1, 2]), ([3], [3]), ([], []), ([], []), ([5, 6], [5, 6]), ([7], [7]), ([4, 8], [4, 8]), ([9], [9]), ([10], [10]), ([0, 11, 10], [0, 11]), ([12, 12, 0, 1, 2, 3, 4, 5, 6, 7, 8, 9, 10, 11, 12], [0, 12])])
def earshotref13_Frame.B10 : List Nat := [0, 0, 0, 6, 14, 0, 0, 96, 224, 510, 1022, 2046, 4095, 8191]
theorem earshotref13_Frame.tab10 : rtab .any (opsOf Tryd.f25 10) = earshotref13_Frame.T10 := by kernel_rfl
theorem earshotref13_Frame.bits10 : waitsOk earshotref13_Frame.T10.2 earshotref13_Frame.B10 = true := by kernel_rfl
def earshotref13_Frame.T12 : Bool × List (List Nat × List Nat) := (true, [([], []), ([0], [0]), ([], []), ([2], [2]), ([1, 3], [1, 3]), ([], []), ([5], [5]), ([6], [6]), ([7], [7]), ([], []), ([9], [9]), ([8, 10, 4], [8, 10]), ([4, 11, 11], [4, 11]), ([12, 12], [12]), ([13, 13, 0, 1, 2, 3, 4, 5, 6, 7, 8, 9, 10, 11, 12, 13], [13])])
def earshotref13_Frame.B12 : List Nat := [0, 1, 0, 4, 15, 0, 32, 96, 224, 0, 512, 2047, 4095, 8191, 16383]
theorem earshotref13_Frame.tab12 : rtab .any (opsOf Tryd.f25 12) = earshotref13_Frame.T12 := by kernel_rfl
theorem earshotref13_Frame.bits12 : waitsOk earshotref13_Frame.T12.2 earshotref13_Frame.B12 = true := by kernel_rfl
def earshotref13_Frame.T16 : Bool × List (List Nat × List Nat) := (true, [([], []), ([], []), ([], []), ([], []), ([2, 3], [2, 3]), ([4], [4]), ([], []), ([6], [6]), ([7], [7]), ([5, 8], [5, 8]), ([0, 1, 0, 1, 2, 3, 4, 5, 6, 7, 8, 9], [0, 1]), ([10, 9, 0, 1, 2, 3, 4, 5, 6, 7, 8, 9], [9, 10])])
def earshotref13_Frame.B16 : List Nat := [0, 0, 0, 0, 12, 28, 0, 64, 192, 508, 1023, 2047]
theorem earshotref13_Frame.tab16 : rtab .any (opsOf Tryd.f25 16) = earshotref13_Frame.T16 := by kernel_rfl
theorem earshotref13_Frame.bits16 : waitsOk earshotref13_Frame.T16.2 earshotref13_Frame.B16 = true := by kernel_rfl
set_option maxHeartbeats 8000000 in
set_option maxRecDepth 100000 in
theorem earshotref13_Frame.calls (k : Nat) (a0_0 : Int) (a0_1 : Int) (a0_2 : Int) (a0_3 : Int) (a0_4 : Int) (A1 : Option Addr) (c1 : Nat) (l1 : List Int) (r : List Int) (w : World) (hr1 : Kd.C (Kd.int .i64) w A1 l1.length l1) (hc1 : l1.length ≤ c1) (h : earshotref13_Frame.f k a0_0 a0_1 a0_2 a0_3 a0_4 l1 = some r) :
  Calls Tryd.prog 25 #[.agg #[.int .i64 a0_0, .int .i64 a0_1, .int .i64 a0_2, .int .i64 a0_3, .int .i64 a0_4], .slice A1 l1.length c1] w fun e w' => ∃ v0_ : Value, e = .returned (v0_) ∧ Kd.R (Kd.int .i64) 3 w' w.heap.size (fun _ => True) v0_ r ∧ Below w.heap.size w w' := by
 have hu39 := Tryd.underlying39
 have hu80 := Tryd.underlying80
 have HR1 := Aside0.mk hr1
 have HC1 := Aside0.mk hc1
 clear hr1 hc1
 have HB := Aside0.mk (Below.refl w.heap.size w)
 have H : ((earshotref13_Right.f a0_0 a0_1 a0_2 a0_3 a0_4).bind fun t240 => ((earshotref13_All.f k l1 (-65536) 65536).bind fun t241 => (if t240 = true then (if t241 = true then (earshotref13_Frame.j0 k l1 ((l1.length : Int) != a0_0) a0_0 a0_1 a0_2 a0_3 a0_4) else (earshotref13_Frame.j0 k l1 true a0_0 a0_1 a0_2 a0_3 a0_4)) else (earshotref13_Frame.j0 k l1 true a0_0 a0_1 a0_2 a0_3 a0_4)))) = some r := h
 clear h
 replace H := Option.bind_eq_some_iff.mp H
 obtain ⟨t240, A30, H⟩ := H
 replace H : ((earshotref13_All.f k l1 (-65536) 65536).bind fun t241 => (if t240 = true then (if t241 = true then (earshotref13_Frame.j0 k l1 ((l1.length : Int) != a0_0) a0_0 a0_1 a0_2 a0_3 a0_4) else (earshotref13_Frame.j0 k l1 true a0_0 a0_1 a0_2 a0_3 a0_4)) else (earshotref13_Frame.j0 k l1 true a0_0 a0_1 a0_2 a0_3 a0_4))) = some r := H
 have A3 := Aside0.mk A30
 clear A30
 replace H := Option.bind_eq_some_iff.mp H
 obtain ⟨t241, A40, H⟩ := H
 replace H : (if t240 = true then (if t241 = true then (earshotref13_Frame.j0 k l1 ((l1.length : Int) != a0_0) a0_0 a0_1 a0_2 a0_3 a0_4) else (earshotref13_Frame.j0 k l1 true a0_0 a0_1 a0_2 a0_3 a0_4)) else (earshotref13_Frame.j0 k l1 true a0_0 a0_1 a0_2 a0_3 a0_4)) = some r := H
 have A4 := Aside0.mk A40
 clear A40
 have HC5 := Aside0.mk H
 clear H
 go_enter Tryd.func25, Tryd.ntmps25
 go_upto_region 3 with (first | ((with_reducible refine gate_dst (N := 2) rfl ?_); (try (refine gate_guard (by rfl) ?_; dsimp only)); refine box_event ?hg (N := 2) ?hd (cs := #[.int .i64 a0_0, .int .i64 a0_1, .int .i64 a0_2, .int .i64 a0_3, .int .i64 a0_4]) (t := 39) ?hr ?_; (case hd => rfl); (case hg => first | rfl | exact wanted_on rfl rfl rfl (by first | assumption | rfl | (simp [*]; done))); (case hr => first | (go_simp; done) | (go_simp; rfl)); intro gb239 hg w6 hbox hb; have n0_ := Aside0.mk (below_step (by repeat (first | (with_reducible first | exact HB.out | apply below_alloc | apply pw_below_drewN | apply below_drew1) | exact HB.out)) hb); have n1_ := Aside0.mk (hbox); have n2_ := Aside0.mk ((by rw [hg]; exact (below_size (by repeat (first | (with_reducible first | exact HB.out | apply below_alloc | apply pw_below_drewN | apply below_drew1) | exact HB.out))) : w.heap.size ≤ gb239)); have n3_ := Aside0.mk ((by rw [hg]; exact (below_size (by repeat (first | (with_reducible first | exact HB.out | apply below_alloc | apply pw_below_drewN | apply below_drew1) | exact HB.out))) : w.heap.size ≤ gb239)); clear HB; have HB := n0_; have BK239 := n1_; have GW239 := n2_; have GE239 := n3_; clear n0_ n1_ n2_ n3_; clear hb hbox hg; have hcz7_0 : w6.cell? ⟨gb239, 0, none⟩ = some (.int .i64 a0_0) := (blk_cell BK239.out 0).trans rfl; have hcz7_1 : w6.cell? ⟨gb239, 1, none⟩ = some (.int .i64 a0_1) := (blk_cell BK239.out 1).trans rfl; have hcz7_2 : w6.cell? ⟨gb239, 2, none⟩ = some (.int .i64 a0_2) := (blk_cell BK239.out 2).trans rfl; have hcz7_3 : w6.cell? ⟨gb239, 3, none⟩ = some (.int .i64 a0_3) := (blk_cell BK239.out 3).trans rfl; have hcz7_4 : w6.cell? ⟨gb239, 4, none⟩ = some (.int .i64 a0_4) := (blk_cell BK239.out 4).trans rfl; have hfz7_0 := blk_frozen BK239.out 0; have hfz7_1 := blk_frozen BK239.out 1; have hfz7_2 := blk_frozen BK239.out 2; have hfz7_3 := blk_frozen BK239.out 3; have hfz7_4 := blk_frozen BK239.out 4) | ((with_reducible refine gate_callee (f := 26) rfl ?_); refine goesL_ (some 14) rfl rfl Tryd.func26 (by kernel_rfl) rfl #[.agg #[.int .i64 a0_0, .int .i64 a0_1, .int .i64 a0_2, .int .i64 a0_3, .int .i64 a0_4]] rfl (by (try simp only [List.map_toArray, List.map_cons, List.map_nil]); first | done | rfl | (simp only [List.length_drop, List.length_take]; rfl)) ?_; (with_reducible refine (earshotref13_Right.calls a0_0 a0_1 a0_2 a0_3 a0_4 t240 _ A3.out).mono ?_); rintro e w8 ⟨rfl, hb⟩; refine ⟨_, rfl, ?_⟩; have n0_ := Aside0.mk (blk_below (g := gb239) (o := .cells #[.int .i64 a0_0, .int .i64 a0_1, .int .i64 a0_2, .int .i64 a0_3, .int .i64 a0_4] 39 (0, 0)) (by (with_reducible repeat (first | refine blk_drewN ?_ _ | refine blk_drew ?_ | refine blk_alloc ?_ _)); exact BK239.out) hb); have n1_ := Aside0.mk (below_step (by repeat (first | (with_reducible first | exact HB.out | apply below_alloc | apply pw_below_drewN | apply below_drew1 | refine below_set ?_ GE239.out) | exact HB.out)) hb); clear BK239; clear HB; have BK239 := n0_; have HB := n1_; clear n0_ n1_; (try clear hb); (try clear hb2); (try clear hk); (try clear hi)) | ((with_reducible refine gate_callee (f := 54) rfl ?_); refine goesL_ (some 16) rfl rfl Tryd.func54 (by kernel_rfl) rfl #[.slice A1 l1.length c1, .int .i64 (-65536), .int .i64 65536] rfl (by (try simp only [List.map_toArray, List.map_cons, List.map_nil]); first | done | rfl | (simp only [List.length_drop, List.length_take]; rfl)) ?_; (with_reducible refine (earshotref13_All.calls k _ _ l1 (-65536) 65536 t241 _ ?side1 ?side2 A4.out).mono ?_); (case side1 => repeat (first | exact (Kd.C_below HR1.out HB.out) | (with_reducible refine Kd.C_alloc ?_ _) | (with_reducible refine Kd.C_drewN ?_ _) | (with_reducible refine Kd.C_drew ?_))); (case side2 => exact HC1.out); rintro e w' ⟨rfl, ⟨nd, rfl⟩⟩; refine ⟨_, rfl, ?_⟩))
 (try simp only [Act.put, List.setIfInBounds_toArray, List.set_cons_zero, List.set_cons_succ])
 go_cut [29] (fun v29 wc => ∃ (kq : Nat) (x29_4 : Bool), v29 = .bool x29_4 ∧ Aside0 (earshotref13_Frame.j0 kq l1 x29_4 a0_0 a0_1 a0_2 a0_3 a0_4 = some r) ∧ Aside0 (kq ≤ k) ∧ Aside0 (wc.heap[gb239]? = some (.cells #[.int .i64 a0_0, .int .i64 a0_1, .int .i64 a0_2, .int .i64 a0_3, .int .i64 a0_4] 39 (0, 0))) ∧ Aside0 (Below w.heap.size w wc))
 case first =>
  have H := HC5.out
  clear HC5
  by_cases c9 : t240 = true
  ·
   subst c9
   have H1 : (if t241 = true then (earshotref13_Frame.j0 k l1 ((l1.length : Int) != a0_0) a0_0 a0_1 a0_2 a0_3 a0_4) else (earshotref13_Frame.j0 k l1 true a0_0 a0_1 a0_2 a0_3 a0_4)) = some r := by rw [if_pos rfl] at H; exact H
   clear H
   have H := H1
   clear H1
   by_cases c10 : t241 = true
   ·
    subst c10
    have H1 : (earshotref13_Frame.j0 k l1 ((l1.length : Int) != a0_0) a0_0 a0_1 a0_2 a0_3 a0_4) = some r := by rw [if_pos rfl] at H; exact H
    clear H
    have H := H1
    clear H1
    have H' := Aside0.mk H
    clear H
    have hcz11_0 : w8.cell? ⟨gb239, 0, none⟩ = some (.int .i64 a0_0) := (blk_cell BK239.out 0).trans rfl
    have hcz11_1 : w8.cell? ⟨gb239, 1, none⟩ = some (.int .i64 a0_1) := (blk_cell BK239.out 1).trans rfl
    have hcz11_2 : w8.cell? ⟨gb239, 2, none⟩ = some (.int .i64 a0_2) := (blk_cell BK239.out 2).trans rfl
    have hcz11_3 : w8.cell? ⟨gb239, 3, none⟩ = some (.int .i64 a0_3) := (blk_cell BK239.out 3).trans rfl
    have hcz11_4 : w8.cell? ⟨gb239, 4, none⟩ = some (.int .i64 a0_4) := (blk_cell BK239.out 4).trans rfl
    have hfz11_0 := blk_frozen BK239.out 0
    have hfz11_1 := blk_frozen BK239.out 1
    have hfz11_2 := blk_frozen BK239.out 2
    have hfz11_3 := blk_frozen BK239.out 3
    have hfz11_4 := blk_frozen BK239.out 4
    go_wp2
    go_meet
    case rel => exact ⟨_, (((l1.length : Int) != a0_0)), (by first | rfl | (simp; done) | (simp [*]; done)), H', ⟨by first | omega | exact Nat.le_refl _⟩, ⟨by (with_reducible repeat (first | refine blk_drewN ?_ _ | refine blk_drew ?_ | refine blk_alloc ?_ _)); exact BK239.out⟩, ⟨by repeat (first | (with_reducible first | exact HB.out | apply below_alloc | apply pw_below_drewN | apply below_drew1 | refine below_set ?_ GE239.out) | exact HB.out)⟩⟩
   ·
    replace c10 := Bool.eq_false_iff.mpr c10
    subst c10
    have H1 : (earshotref13_Frame.j0 k l1 true a0_0 a0_1 a0_2 a0_3 a0_4) = some r := by rw [if_neg (show ¬ (false = true) by decide)] at H; exact H
    clear H
    have H := H1
    clear H1
    have H' := Aside0.mk H
    clear H
    go_wp2
    go_meet
    case rel => exact ⟨_, (true), (by first | rfl | (simp; done) | (simp [*]; done)), H', ⟨by first | omega | exact Nat.le_refl _⟩, ⟨by (with_reducible repeat (first | refine blk_drewN ?_ _ | refine blk_drew ?_ | refine blk_alloc ?_ _)); exact BK239.out⟩, ⟨by repeat (first | (with_reducible first | exact HB.out | apply below_alloc | apply pw_below_drewN | apply below_drew1 | refine below_set ?_ GE239.out) | exact HB.out)⟩⟩
  ·
   replace c9 := Bool.eq_false_iff.mpr c9
   subst c9
   have H1 : (earshotref13_Frame.j0 k l1 true a0_0 a0_1 a0_2 a0_3 a0_4) = some r := by rw [if_neg (show ¬ (false = true) by decide)] at H; exact H
   clear H
   have H := H1
   clear H1
   have H' := Aside0.mk H
   clear H
   go_wp2
   go_meet
   case rel => exact ⟨_, (true), (by first | rfl | (simp; done) | (simp [*]; done)), H', ⟨by first | omega | exact Nat.le_refl _⟩, ⟨by (with_reducible repeat (first | refine blk_drewN ?_ _ | refine blk_drew ?_ | refine blk_alloc ?_ _)); exact BK239.out⟩, ⟨by repeat (first | (with_reducible first | exact HB.out | apply below_alloc | apply pw_below_drewN | apply below_drew1 | refine below_set ?_ GE239.out) | exact HB.out)⟩⟩
 case rest =>
  clear HC5
  try clear c1
  try clear c2
  try clear p2
  try clear c5
  try clear c9
  try clear c10
  try clear hcz11_0
  try clear hcz11_1
  try clear hcz11_2
  try clear hcz11_3
  try clear hcz11_4
  try clear hcz7_0
  try clear hcz7_1
  try clear hcz7_2
  try clear hcz7_3
  try clear hcz7_4
  try clear hfz11_0
  try clear hfz11_1
  try clear hfz11_2
  try clear hfz11_3
  try clear hfz11_4
  try clear hfz7_0
  try clear hfz7_1
  try clear hfz7_2
  try clear hfz7_3
  try clear hfz7_4
  obtain ⟨kq, x29_4, rfl, HA, HJ4, BK239, HB⟩ := hcut
  cases kq with
  | zero => exact absurd HA.out (by simp [earshotref13_Frame.j0])
  | succ kj4 =>
    have H := HA.out
    clear HA
    simp only [earshotref13_Frame.j0] at H
    by_cases c12 : x29_4 = true
    ·
     subst c12
     have H1 : (some ([] : List Int)) = some r := by rw [if_pos rfl] at H; exact H
     clear H
     have H := H1
     clear H1
     obtain rfl := Option.some.inj H
     go_wp2
     go_ret
     exact ⟨_, by first | rfl | (simp [errW_none, errW_some] <;> rfl) | (simp [*, errW_none, errW_some] <;> rfl), by first | exact Kd.R_nil _ _ _ _ _ | exact Kd.N_nil _ _ _ _ _ | exact Kd.V_nil _ _ _ _ _ | exact Kd.Q_nil _ _ _ _ _ | exact Kd.S_nil _ _ _ _ _, by repeat (first | (with_reducible first | exact HB.out | apply below_alloc | apply pw_below_drewN | apply below_drew1 | refine below_set ?_ GE239.out) | exact HB.out)⟩
    ·
     replace c12 := Bool.eq_false_iff.mpr c12
     subst c12
     have H1 : ((earshotref04_Window.f kj4 a0_0).bind fun t242 => (earshotref13_Frame.l0 kj4 l1 t242 ([] : List Int) 0 a0_0 a0_1 a0_2 a0_3 a0_4)) = some r := by rw [if_neg (show ¬ (false = true) by decide)] at H; exact H
     clear H
     have H := H1
     clear H1
     replace H := Option.bind_eq_some_iff.mp H
     obtain ⟨t242, A130, H⟩ := H
     replace H : (earshotref13_Frame.l0 kj4 l1 t242 ([] : List Int) 0 a0_0 a0_1 a0_2 a0_3 a0_4) = some r := H
     have A13 := Aside0.mk A130
     clear A130
     have H' := Aside0.mk H
     clear H
     have hcz14_0 : wc.cell? ⟨gb239, 0, none⟩ = some (.int .i64 a0_0) := (blk_cell BK239.out 0).trans rfl
     have hcz14_1 : wc.cell? ⟨gb239, 1, none⟩ = some (.int .i64 a0_1) := (blk_cell BK239.out 1).trans rfl
     have hcz14_2 : wc.cell? ⟨gb239, 2, none⟩ = some (.int .i64 a0_2) := (blk_cell BK239.out 2).trans rfl
     have hcz14_3 : wc.cell? ⟨gb239, 3, none⟩ = some (.int .i64 a0_3) := (blk_cell BK239.out 3).trans rfl
     have hcz14_4 : wc.cell? ⟨gb239, 4, none⟩ = some (.int .i64 a0_4) := (blk_cell BK239.out 4).trans rfl
     have hfz14_0 := blk_frozen BK239.out 0
     have hfz14_1 := blk_frozen BK239.out 1
     have hfz14_2 := blk_frozen BK239.out 2
     have hfz14_3 := blk_frozen BK239.out 3
     have hfz14_4 := blk_frozen BK239.out 4
     go_wp2_with (first | ((with_reducible refine gate_callee (f := 55) rfl ?_); refine goesL_ (some 32) rfl rfl Tryd.func55 (by kernel_rfl) rfl #[.int .i64 a0_0] rfl (by (try simp only [List.map_toArray, List.map_cons, List.map_nil]); first | done | rfl | (simp only [List.length_drop, List.length_take]; rfl)) ?_; (with_reducible refine (earshotref04_Window.calls kj4 a0_0 t242 _ A13.out).mono ?_); rintro e w15 ⟨v243, rfl, ho0, hb⟩; refine ⟨_, rfl, ?_⟩; have n0_ := Aside0.mk (Kd.R_lower ho0 (below_size (by repeat (first | (with_reducible first | exact HB.out | apply below_alloc | apply pw_below_drewN | apply below_drew1 | refine below_set ?_ GE239.out) | exact HB.out)))); have n1_ := Aside0.mk (blk_below (g := gb239) (o := .cells #[.int .i64 a0_0, .int .i64 a0_1, .int .i64 a0_2, .int .i64 a0_3, .int .i64 a0_4] 39 (0, 0)) (by (with_reducible repeat (first | refine blk_drewN ?_ _ | refine blk_drew ?_ | refine blk_alloc ?_ _)); exact BK239.out) hb); have n2_ := Aside0.mk (below_step (by repeat (first | (with_reducible first | exact HB.out | apply below_alloc | apply pw_below_drewN | apply below_drew1 | refine below_set ?_ GE239.out) | exact HB.out)) hb); clear BK239; clear HB; have HO244 := n0_; have BK239 := n1_; have HB := n2_; clear n0_ n1_ n2_; (try clear hb); (try clear hb2); (try clear hk); (try clear hi); (try clear ho0)))
     go_loopg [8, 9] kj4 (fun kq v8 v9 w' => ∃ (x8_2 : List Int) (x9_2 : Int), v9 = .int .i64 x9_2 ∧ Aside0 (earshotref13_Frame.l0 kq l1 t242 x8_2 x9_2 a0_0 a0_1 a0_2 a0_3 a0_4 = some r) ∧ Aside0 (kq ≤ kj4) ∧ Aside0 (Kd.R (Kd.int .i64) 3 w' w.heap.size (fun k_ => some k_ ≠ (v8 : Value).ownBlock) v243 t242) ∧ Aside0 (Kd.R (Kd.int .i64) 3 w' w.heap.size (fun k_ => some k_ ≠ (v243 : Value).ownBlock) v8 x8_2) ∧ Aside0 (w'.heap[gb239]? = some (.cells #[.int .i64 a0_0, .int .i64 a0_1, .int .i64 a0_2, .int .i64 a0_3, .int .i64 a0_4] 39 (0, 0))) ∧ Aside0 (Below w.heap.size w w'))
     case atStart => exact ⟨(([] : List Int)), (0), (by first | rfl | (simp; done) | (simp [*]; done)), H', ⟨Nat.le_refl _⟩, ⟨by (with_reducible repeat (first | apply Kd.R_alloc | apply Kd.R_drewN | apply Kd.R_drew)); exact Kd.R_mono HO244.out (fun _ hk => (by simp [Value.ownBlock]))⟩, ⟨by first | exact Kd.R_nil _ _ _ _ _ | exact Kd.N_nil _ _ _ _ _ | exact Kd.V_nil _ _ _ _ _ | exact Kd.Q_nil _ _ _ _ _ | exact Kd.S_nil _ _ _ _ _⟩, ⟨by (with_reducible repeat (first | refine blk_drewN ?_ _ | refine blk_drew ?_ | refine blk_alloc ?_ _)); exact BK239.out⟩, ⟨by repeat (first | (with_reducible first | exact HB.out | apply below_alloc | apply pw_below_drewN | apply below_drew1 | refine below_set ?_ GE239.out) | exact HB.out)⟩⟩
     case round =>
      clear H'
      try clear c1
      try clear c2
      try clear p2
      try clear c5
      try clear c9
      try clear c10
      try clear c12
      try clear hcz11_0
      try clear hcz11_1
      try clear hcz11_2
      try clear hcz11_3
      try clear hcz11_4
      try clear hcz14_0
      try clear hcz14_1
      try clear hcz14_2
      try clear hcz14_3
      try clear hcz14_4
      try clear hcz7_0
      try clear hcz7_1
      try clear hcz7_2
      try clear hcz7_3
      try clear hcz7_4
      try clear hfz11_0
      try clear hfz11_1
      try clear hfz11_2
      try clear hfz11_3
      try clear hfz11_4
      try clear hfz14_0
      try clear hfz14_1
      try clear hfz14_2
      try clear hfz14_3
      try clear hfz14_4
      try clear hfz7_0
      try clear hfz7_1
      try clear hfz7_2
      try clear hfz7_3
      try clear hfz7_4
      try clear p2
      obtain ⟨x8_2, x9_2, rfl, HA, HK2, HO_7, HO_8, BK239, HB⟩ := hrel
      cases gk with
      | zero => exact absurd HA.out (by simp [earshotref13_Frame.l0])
      | succ k2 =>
        have H := HA.out
        clear HA
        simp only [earshotref13_Frame.l0] at H
        by_cases c16 : x9_2 < a0_0
        ·
         rw [if_pos c16] at H
         have c16b0 : decide (x9_2 < a0_0) = true := decide_eq_true c16
         clear c16
         by_cases c17 : 0 ≤ x9_2
         ·
          rw [if_pos c17] at H
          have c17b0 : decide (0 ≤ x9_2) = true := decide_eq_true c17
          clear c17
          by_cases c18 : x9_2 < (l1.length : Int)
          ·
           rw [if_pos c18] at H
           have c18b0 : decide (x9_2 < (l1.length : Int)) = true := decide_eq_true c18
           clear c18
           by_cases c19 : x9_2 < (t242.length : Int)
           ·
            rw [if_pos c19] at H
            have c19b0 : decide (x9_2 < (t242.length : Int)) = true := decide_eq_true c19
            clear c19
            replace H := Option.bind_eq_some_iff.mp H
            obtain ⟨t247, A200, H⟩ := H
            replace H : (if x8_2.length < 17592186044416 then (earshotref13_Frame.l0 k2 l1 t242 (x8_2 ++ [t247]) (wrap64 (x9_2 + 1)) a0_0 a0_1 a0_2 a0_3 a0_4) else (none)) = some r := H
            have A20 := Aside0.mk A200
            clear A200
            by_cases c21 : x8_2.length < 17592186044416
            ·
             rw [if_pos c21] at H
             have LMc21 := Aside0.mk c21
             clear c21
             obtain ⟨y248, hy248⟩ : ∃ y_ : List Int, y_ = (x8_2 ++ [t247]) := ⟨_, rfl⟩
             replace H : (earshotref13_Frame.l0 k2 l1 t242 y248 (wrap64 (x9_2 + 1)) a0_0 a0_1 a0_2 a0_3 a0_4) = some r := by first | (rw [hy248]; with_reducible exact H) | (have H2_ := (Option.bind_some _ _).symm.trans H; rw [hy248]; with_reducible exact H2_) | (have H2_ := (Option.bind_some _ _).symm.trans H; with_reducible exact H2_) | with_reducible exact H | (rw [hy248]; exact H) | exact H
             have Ny248 := Aside0.mk hy248
             clear hy248
             have H' := Aside0.mk H
             clear H
             have hcz22_0 : wr.cell? ⟨gb239, 0, none⟩ = some (.int .i64 a0_0) := (blk_cell BK239.out 0).trans rfl
             have hcz22_1 : wr.cell? ⟨gb239, 1, none⟩ = some (.int .i64 a0_1) := (blk_cell BK239.out 1).trans rfl
             have hcz22_2 : wr.cell? ⟨gb239, 2, none⟩ = some (.int .i64 a0_2) := (blk_cell BK239.out 2).trans rfl
             have hcz22_3 : wr.cell? ⟨gb239, 3, none⟩ = some (.int .i64 a0_3) := (blk_cell BK239.out 3).trans rfl
             have hcz22_4 : wr.cell? ⟨gb239, 4, none⟩ = some (.int .i64 a0_4) := (blk_cell BK239.out 4).trans rfl
             have hfz22_0 := blk_frozen BK239.out 0
             have hfz22_1 := blk_frozen BK239.out 1
             have hfz22_2 := blk_frozen BK239.out 2
             have hfz22_3 := blk_frozen BK239.out 3
             have hfz22_4 := blk_frozen BK239.out 4
             try go_wp2
             have n0_ := Aside0.mk (Kd.R_drew HO_7.out)
             have n1_ := Aside0.mk (Kd.R_drew HO_8.out)
             have n2_ := Aside0.mk (blk_drew BK239.out)
             have n3_ := Aside0.mk (below_drew1 HB.out)
             clear HO_7
             clear HO_8
             clear BK239
             clear HB
             have HO_7 := n0_
             have HO_8 := n1_
             have BK239 := n2_
             have HB := n3_
             clear n0_ n1_ n2_ n3_
             have p245 : 0 ≤ (x9_2 : Int) := of_decide_eq_true (by first | (with_reducible assumption) | assumption)
             have q245 : x9_2 < (l1.length : Int) := of_decide_eq_true (by first | (with_reducible assumption) | assumption)
             obtain ⟨ad245, e245, hx245_0⟩ := Kd.at_int HR1.out x9_2 p245 q245
             have hw245_0 := hx245_0
             cases e245
             replace hx245_0 := (HB.out.cell (World.block_lt_of_cell? w _ hx245_0)).trans hx245_0
             replace p245 := eq_true p245
             replace q245 := eq_true q245
             obtain ⟨Ao24, co24, eo24⟩ := Kd.R_slice HO_7.out
             (first | subst eo24 | (injection eo24 with f1_ f2_ f3_; have f4_ := f1_.symm; have f5_ := f3_.symm; clear f1_ f2_ f3_; subst f4_; subst f5_))
             have p246 : 0 ≤ (x9_2 : Int) := of_decide_eq_true (by first | (with_reducible assumption) | assumption)
             have q246 : x9_2 < (t242.length : Int) := of_decide_eq_true (by first | (with_reducible assumption) | assumption)
             obtain ⟨ad246, e246, hx246_0⟩ := Kd.at_int (Kd.R_reads' HO_7.out).2.2 x9_2 p246 q246
             cases e246
             replace p246 := eq_true p246
             replace q246 := eq_true q246
             refine start_ (n := 14) (S := fun w' => w'.cell? (ad245.add (x9_2).toNat) = some (.int .i64 (rd l1 x9_2)) ∧ w'.cell? (ad246.add (x9_2).toNat) = some (.int .i64 (rd t242 x9_2))) (ds := [11, 12]) #[false, false, false, false, false, false, false, false, false, false, false, false, false, false] (by kernel_rfl) rfl rfl ⟨((HB.out.cell (World.block_lt_of_cell? w _ hw245_0)).trans hw245_0), hx246_0⟩ (fun hHeld => ?_); refine with_tabW earshotref13_Frame.tab10 earshotref13_Frame.bits10 (fun HT_ HW_ => ?_)
             generalize wr.drew = w23 at HO_7 HO_8 BK239 HB hx245_0 hx246_0 hHeld ⊢
             refine pure_ (i := 0) (N := some 39) (v := ?_) (a' := ?_) #[true, false, false, false, false, false, false, false, false, false, false, false, false, false] rfl rfl (any_of HT_.out (by kernel_rfl)) (fun _ _ _ h => h) (Or.inl ⟨by rfl, ?_⟩) ?_ ?_
             rotate_left
             ·
              intro w'
              go_simp
              with_reducible rfl
             rotate_left
             ·
              simp only [Act.put, List.setIfInBounds_toArray, List.set_cons_zero, List.set_cons_succ, i64_w, i32_w]
              rfl
             refine pure_ (i := 1) (N := some 40) (v := ?_) (a' := ?_) #[true, true, false, false, false, false, false, false, false, false, false, false, false, false] rfl rfl (any_of HT_.out (by kernel_rfl)) (fun _ _ _ h => h) (Or.inl ⟨by rfl, ?_⟩) ?_ ?_
             rotate_left
             ·
              intro w'
              go_simp
              with_reducible rfl
             rotate_left
             ·
              simp only [Act.put, List.setIfInBounds_toArray, List.set_cons_zero, List.set_cons_succ, i64_w, i32_w]
              rfl
             refine pure_ (i := 2) (N := some 41) (v := ?_) (a' := ?_) #[true, true, true, false, false, false, false, false, false, false, false, false, false, false] rfl rfl (any_of HT_.out (by kernel_rfl)) (fun _ _ _ h => h) (Or.inl ⟨by rfl, ?_⟩) ?_ ?_
             rotate_left
             ·
              intro w'
              go_simp
              with_reducible rfl
             rotate_left
             ·
              simp only [Act.put, List.setIfInBounds_toArray, List.set_cons_zero, List.set_cons_succ, i64_w, i32_w]
              rfl
             refine pure_ (i := 3) (N := some 42) (v := ?_) (a' := ?_) #[true, true, true, true, false, false, false, false, false, false, false, false, false, false] rfl rfl (any_of HT_.out (by kernel_rfl)) (fun _ _ _ h => h) (Or.inl ⟨by rfl, ?_⟩) ?_ ?_
             rotate_left
             ·
              intro w'
              go_simp
              with_reducible rfl
             rotate_left
             ·
              simp only [Act.put, List.setIfInBounds_toArray, List.set_cons_zero, List.set_cons_succ, i64_w, i32_w]
              rfl
             refine pure_ (i := 5) (N := some 44) (v := ?_) (a' := ?_) #[true, true, true, true, false, true, false, false, false, false, false, false, false, false] rfl rfl (any_of HT_.out (by kernel_rfl)) (fun _ _ _ h => h) (Or.inl ⟨by rfl, ?_⟩) ?_ ?_
             rotate_left
             ·
              intro w'
              go_simp
              with_reducible rfl
             rotate_left
             ·
              simp only [Act.put, List.setIfInBounds_toArray, List.set_cons_zero, List.set_cons_succ, i64_w, i32_w]
              rfl
             refine pure_ (i := 6) (N := some 45) (v := ?_) (a' := ?_) #[true, true, true, true, false, true, true, false, false, false, false, false, false, false] rfl rfl (any_of HT_.out (by kernel_rfl)) (fun _ _ _ h => h) (Or.inl ⟨by rfl, ?_⟩) ?_ ?_
             rotate_left
             ·
              intro w'
              go_simp
              with_reducible rfl
             rotate_left
             ·
              simp only [Act.put, List.setIfInBounds_toArray, List.set_cons_zero, List.set_cons_succ, i64_w, i32_w]
              rfl
             refine pure_ (i := 7) (N := some 46) (v := ?_) (a' := ?_) #[true, true, true, true, false, true, true, true, false, false, false, false, false, false] rfl rfl (any_of HT_.out (by kernel_rfl)) (fun _ _ _ h => h) (Or.inl ⟨by rfl, ?_⟩) ?_ ?_
             rotate_left
             ·
              intro w'
              go_simp
              with_reducible rfl
             rotate_left
             ·
              simp only [Act.put, List.setIfInBounds_toArray, List.set_cons_zero, List.set_cons_succ, i64_w, i32_w]
              rfl
             refine take_ (i := 4) (N := some 43) (v := ?_) (a' := ?_) #[true, true, true, true, true, true, true, true, false, false, false, false, false, false] rfl rfl (take_ofW HT_.out HW_.out (by kernel_rfl)) (fun _ _ _ h => h) (Or.inl ⟨by rfl, ?_⟩) hHeld ?_ ?_
             rotate_left
             ·
              rintro w' ⟨s0, s1⟩
              go_simp
              with_reducible rfl
             rotate_left
             ·
              simp only [Act.put, List.setIfInBounds_toArray, List.set_cons_zero, List.set_cons_succ, i64_w, i32_w]
              rfl
             refine take_ (i := 8) (N := some 47) (v := ?_) (a' := ?_) #[true, true, true, true, true, true, true, true, true, false, false, false, false, false] rfl rfl (take_ofW HT_.out HW_.out (by kernel_rfl)) (fun _ _ _ h => h) (Or.inl ⟨by rfl, ?_⟩) hHeld ?_ ?_
             rotate_left
             ·
              rintro w' ⟨s0, s1⟩
              go_simp
              with_reducible rfl
             rotate_left
             ·
              simp only [Act.put, List.setIfInBounds_toArray, List.set_cons_zero, List.set_cons_succ, i64_w, i32_w]
              rfl
             refine pure_ (i := 9) (N := some 48) (v := ?_) (a' := ?_) #[true, true, true, true, true, true, true, true, true, true, false, false, false, false] rfl rfl (any_of HT_.out (by kernel_rfl)) (fun _ _ _ h => h) (Or.inl ⟨by rfl, ?_⟩) ?_ ?_
             rotate_left
             ·
              intro w'
              go_simp
              with_reducible rfl
             rotate_left
             ·
              simp only [Act.put, List.setIfInBounds_toArray, List.set_cons_zero, List.set_cons_succ, i64_w, i32_w]
              rfl
             refine one_ (i := 10) (N := some 49) #[true, true, true, true, true, true, true, true, true, true, true, false, false, false] rfl rfl (one_of HT_.out (by kernel_rfl)) (by decide) (fun K hK => ?_)
             refine goes_ Tryd.func56 (by kernel_rfl) rfl #[.int .i64 (wrap64 ((rd l1 x9_2) * (rd t242 x9_2))), .int .i64 14] (by first | rfl | exact wanted_on rfl rfl rfl (by first | assumption | rfl | (simp [*]; done))) rfl rfl (by (try simp only [List.map_toArray, List.map_cons, List.map_nil]); first | done | rfl | (simp only [List.length_drop, List.length_take]; rfl)) ?_
             with_reducible refine (earshotref02_Half.calls k2 (wrap64 ((rd l1 x9_2) * (rd t242 x9_2))) 14 t247 _ A20.out).mono ?_
             rintro e w' ⟨rfl, ⟨nd, rfl⟩⟩
             refine ⟨_, rfl, ?_⟩
             refine hK.out _ _ ⟨((HB.out.cell (World.block_lt_of_cell? w _ hw245_0)).trans hw245_0), hHeld.2⟩ (fun hHeld => ?_)
             clear hK K
             refine norm_ (a' := ?_) ?_ ?_
             rotate_left
             ·
              show Act.put _ (some 49) _ = _
              simp only [Act.put, List.setIfInBounds_toArray, List.set_cons_zero, List.set_cons_succ, i64_w, i32_w]
              rfl
             refine last_ (i := 11) (N := some 50) #[true, true, true, true, true, true, true, true, true, true, true, true, false, false] rfl rfl (one_of HT_.out (by kernel_rfl)) (by decide) (fun K hK => ?_)
             refine value_ (w1 := ?_) (v := ?_) (by rfl) rfl ?_ ?_
             rotate_left 2
             ·
              go_simp
              constructor
              · rfl
              · rfl
             refine hK.out _ _ ?_
             clear hK K
             refine norm_ (a' := ?_) ?_ ?_
             rotate_left
             ·
              show Act.put _ (some 50) _ = _
              simp only [Act.put, List.setIfInBounds_toArray, List.set_cons_zero, List.set_cons_succ, i64_w, i32_w]
              rfl
             refine last_ (i := 12) (N := some 51) #[true, true, true, true, true, true, true, true, true, true, true, true, true, false] rfl rfl (one_of HT_.out (by kernel_rfl)) (by decide) (fun K hK => ?_)
             refine Kd.R_append_step (Kd.int .i64) (w0 := w) w.heap.size (by rfl) (.tmp 39) (.tmp 50) 22 3 (.int .i64 0) 8 rfl Tryd.underlying22 info3 rfl (by decide) (by omega) u8 x8_2 t247 [.int .i64 t247] (fun k_ => some k_ ≠ (.slice (some ad246) t242.length co24 : Value).ownBlock) (fun _ => False) rfl rfl ?aP (fun _ hk => hk.elim) ?aF ?aO ?aB ?aS ?aL ?_
             (case aP => exact rfl)
             (case aB => exact (by repeat (first | (with_reducible first | exact HB.out | apply below_alloc | apply pw_below_drewN | apply below_drew1 | refine below_set ?_ GE239.out) | exact HB.out)))
             (case aF => exact (fun k_ hk => Kd.fresh' (Kd.R_lt (by (with_reducible repeat (first | apply Kd.R_alloc | apply Kd.R_drewN | apply Kd.R_drew)); (first | exact HO_7.out | exact Kd.R_mono HO_7.out (fun _ _ => trivial) | exact Kd.R_mono HO_7.out (fun _ hk => hk.1)))) k_ hk))
             (case aO => exact (by (with_reducible repeat (first | apply Kd.R_alloc | apply Kd.R_drewN | apply Kd.R_drew)); (first | exact HO_8.out | exact Kd.R_mono HO_8.out (fun _ _ => trivial) | exact Kd.R_mono HO_8.out (fun _ hk => hk.1))))
             (case aS => exact (below_size (by repeat (first | (with_reducible first | exact HB.out | apply below_alloc | apply pw_below_drewN | apply below_drew1 | refine below_set ?_ GE239.out) | exact HB.out))))
             (case aL => have := LMc21.out; omega)
             intro v249 w25 ho hb hg hat
             rw [← Ny248.out] at ho
             have n0_ := Aside0.mk (Kd.R_after (ok := (fun _ => True)) (by (with_reducible repeat (first | apply Kd.R_alloc | apply Kd.R_drewN | apply Kd.R_drew)); (first | exact Kd.R_mono HO_7.out (fun _ hk => ⟨trivial, hk⟩) | exact Kd.R_mono HO_7.out (fun _ _ => trivial))) hg hat)
             have n1_ := Aside0.mk (blk_grown (g := gb239) (o := .cells #[.int .i64 a0_0, .int .i64 a0_1, .int .i64 a0_2, .int .i64 a0_3, .int .i64 a0_4] 39 (0, 0)) (by (with_reducible repeat (first | refine blk_drewN ?_ _ | refine blk_drew ?_ | refine blk_alloc ?_ _)); exact BK239.out) hg (Kd.R_ne HO_8.out BK239.out (by decide)))
             have n2_ := Aside0.mk (hb)
             have n3_ := Aside0.mk (ho)
             clear HO_7
             clear BK239
             clear HB
             clear HO_8
             have HO_7 := n0_
             have BK239 := n1_
             have HB := n2_
             have HO250 := n3_
             clear n0_ n1_ n2_ n3_
             clear ho hb hg hat
             refine hK.out _ _ ?_
             clear hK K
             refine norm_ (a' := ?_) ?_ ?_
             rotate_left
             ·
              show Act.put _ (some 51) _ = _
              simp only [Act.put, List.setIfInBounds_toArray, List.set_cons_zero, List.set_cons_succ, i64_w, i32_w]
              rfl
             refine pure_ (i := 13) (N := some 8) (v := ?_) (a' := ?_) #[true, true, true, true, true, true, true, true, true, true, true, true, true, true] rfl rfl (any_of HT_.out (by kernel_rfl)) (fun _ _ _ h => h) (Or.inl ⟨by rfl, ?_⟩) ?_ ?_
             rotate_left
             ·
              intro w'
              go_simp
              with_reducible rfl
             rotate_left
             ·
              simp only [Act.put, List.setIfInBounds_toArray, List.set_cons_zero, List.set_cons_succ, i64_w, i32_w]
              rfl
             refine done_ (done_of HT_.out (by kernel_rfl)) ?_
             try go_wp2
             go_roundg k2
             case measure => have := HJ4.out; have := HK2.out; omega
             case rel => exact ⟨(y248), (wrap64 (x9_2 + 1)), (by first | rfl | (simp; done) | (simp [*]; done)), H', ⟨by have := HJ4.out; have := HK2.out; omega⟩, ⟨by (with_reducible repeat (first | apply Kd.R_alloc | apply Kd.R_drewN | apply Kd.R_drew)); exact Kd.R_mono HO_7.out (fun _ hk => hk.2)⟩, ⟨by (with_reducible repeat (first | apply Kd.R_alloc | apply Kd.R_drewN | apply Kd.R_drew)); exact HO250.out⟩, ⟨by (with_reducible repeat (first | refine blk_drewN ?_ _ | refine blk_drew ?_ | refine blk_alloc ?_ _)); exact BK239.out⟩, ⟨by repeat (first | (with_reducible first | exact HB.out | apply below_alloc | apply pw_below_drewN | apply below_drew1 | refine below_set ?_ GE239.out) | exact HB.out)⟩⟩
            ·
             rw [if_neg c21] at H
             exact absurd H (by simp)
           ·
            rw [if_neg c19] at H
            exact absurd H (by simp)
          ·
           rw [if_neg c18] at H
           exact absurd H (by simp)
         ·
          rw [if_neg c17] at H
          exact absurd H (by simp)
        ·
         rw [if_neg c16] at H
         have c16b0 : decide (x9_2 < a0_0) = false := decide_eq_false c16
         clear c16
         replace H := Option.bind_eq_some_iff.mp H
         obtain ⟨⟨t251, t254, t257⟩, A260, H⟩ := H
         replace H : ((earshotref10_Power.f k2 t251 t254).bind fun t259 => ((earshotref11_Edges.f k2 (wrap64 ((wrap64 (Int.tdiv a0_0 2)) + 1)) a0_2).bind fun t262 => ((earshotref11_Bands.f t259 t262).bind fun t265 => ((earshotref12_Logs.f k2 t265).bind fun t268 => (earshotref13_Frame.l1 k2 t268 0 a0_0 a0_1 a0_2 a0_3 a0_4 t251 t254 t257))))) = some r := H
         have A26 := Aside0.mk A260
         clear A260
         replace H := Option.bind_eq_some_iff.mp H
         obtain ⟨t259, A270, H⟩ := H
         replace H : ((earshotref11_Edges.f k2 (wrap64 ((wrap64 (Int.tdiv a0_0 2)) + 1)) a0_2).bind fun t262 => ((earshotref11_Bands.f t259 t262).bind fun t265 => ((earshotref12_Logs.f k2 t265).bind fun t268 => (earshotref13_Frame.l1 k2 t268 0 a0_0 a0_1 a0_2 a0_3 a0_4 t251 t254 t257)))) = some r := H
         have A27 := Aside0.mk A270
         clear A270
         replace H := Option.bind_eq_some_iff.mp H
         obtain ⟨t262, A280, H⟩ := H
         replace H : ((earshotref11_Bands.f t259 t262).bind fun t265 => ((earshotref12_Logs.f k2 t265).bind fun t268 => (earshotref13_Frame.l1 k2 t268 0 a0_0 a0_1 a0_2 a0_3 a0_4 t251 t254 t257))) = some r := H
         have A28 := Aside0.mk A280
         clear A280
         replace H := Option.bind_eq_some_iff.mp H
         obtain ⟨t265, A290, H⟩ := H
         replace H : ((earshotref12_Logs.f k2 t265).bind fun t268 => (earshotref13_Frame.l1 k2 t268 0 a0_0 a0_1 a0_2 a0_3 a0_4 t251 t254 t257)) = some r := H
         have A29 := Aside0.mk A290
         clear A290
         replace H := Option.bind_eq_some_iff.mp H
         obtain ⟨t268, A300, H⟩ := H
         replace H : (earshotref13_Frame.l1 k2 t268 0 a0_0 a0_1 a0_2 a0_3 a0_4 t251 t254 t257) = some r := H
         have A30 := Aside0.mk A300
         clear A300
         have H' := Aside0.mk H
         clear H
         have hcz31_0 : wr.cell? ⟨gb239, 0, none⟩ = some (.int .i64 a0_0) := (blk_cell BK239.out 0).trans rfl
         have hcz31_1 : wr.cell? ⟨gb239, 1, none⟩ = some (.int .i64 a0_1) := (blk_cell BK239.out 1).trans rfl
         have hcz31_2 : wr.cell? ⟨gb239, 2, none⟩ = some (.int .i64 a0_2) := (blk_cell BK239.out 2).trans rfl
         have hcz31_3 : wr.cell? ⟨gb239, 3, none⟩ = some (.int .i64 a0_3) := (blk_cell BK239.out 3).trans rfl
         have hcz31_4 : wr.cell? ⟨gb239, 4, none⟩ = some (.int .i64 a0_4) := (blk_cell BK239.out 4).trans rfl
         have hfz31_0 := blk_frozen BK239.out 0
         have hfz31_1 := blk_frozen BK239.out 1
         have hfz31_2 := blk_frozen BK239.out 2
         have hfz31_3 := blk_frozen BK239.out 3
         have hfz31_4 := blk_frozen BK239.out 4
         obtain ⟨Ao32, co32, eo32⟩ := Kd.R_slice HO_8.out
         subst eo32
         try go_wp2_with (first | ((with_reducible refine gate_callee (f := 57) rfl ?_); refine goesL_ (some 53) rfl rfl Tryd.func57 (by kernel_rfl) rfl #[.slice Ao32 x8_2.length co32] rfl (by (try simp only [List.map_toArray, List.map_cons, List.map_nil]); first | done | rfl | (simp only [List.length_drop, List.length_take]; rfl)) ?_; (with_reducible refine (earshotref10_Bins.calls k2 _ _ x8_2 t251 t254 t257 _ ?side1 ?side2 A26.out).mono ?_); (case side1 => repeat (first | exact (Kd.R_reads' HO_8.out).2.2 | (with_reducible refine Kd.C_alloc ?_ _) | (with_reducible refine Kd.C_drewN ?_ _) | (with_reducible refine Kd.C_drew ?_))); (case side2 => exact (Kd.R_reads' HO_8.out).2.1); rintro e w33 ⟨v252, v255, rfl, ho0, ho1, hb⟩; refine ⟨_, rfl, ?_⟩; have n0_ := Aside0.mk (Kd.R_mono (Kd.R_told (Kd.R_told (Kd.R_old (by (with_reducible repeat (first | apply Kd.R_alloc | apply Kd.R_drewN | apply Kd.R_drew)); (first | exact HO_7.out | exact Kd.R_mono HO_7.out (fun _ _ => trivial) | exact Kd.R_mono HO_7.out (fun _ hk => hk.1))) hb) (Kd.R_base ho0)) (Kd.R_base ho1)) (fun _ h_ => h_.1)); have n1_ := Aside0.mk (Kd.R_mono (Kd.R_told (Kd.R_told (Kd.R_old (by (with_reducible repeat (first | apply Kd.R_alloc | apply Kd.R_drewN | apply Kd.R_drew)); (first | exact HO_8.out | exact Kd.R_mono HO_8.out (fun _ _ => trivial) | exact Kd.R_mono HO_8.out (fun _ hk => hk.1))) hb) (Kd.R_base ho0)) (Kd.R_base ho1)) (fun _ h_ => h_.1)); have n2_ := Aside0.mk (Kd.R_lower (Kd.R_new' (Kd.R_new' ho0 (Kd.R_lt (by (with_reducible repeat (first | apply Kd.R_alloc | apply Kd.R_drewN | apply Kd.R_drew)); (first | exact HO_7.out | exact Kd.R_mono HO_7.out (fun _ _ => trivial) | exact Kd.R_mono HO_7.out (fun _ hk => hk.1))))) (Kd.R_lt (by (with_reducible repeat (first | apply Kd.R_alloc | apply Kd.R_drewN | apply Kd.R_drew)); (first | exact HO_8.out | exact Kd.R_mono HO_8.out (fun _ _ => trivial) | exact Kd.R_mono HO_8.out (fun _ hk => hk.1))))) (below_size (by repeat (first | (with_reducible first | exact HB.out | apply below_alloc | apply pw_below_drewN | apply below_drew1 | refine below_set ?_ GE239.out) | exact HB.out)))); have n3_ := Aside0.mk (Kd.R_lower (Kd.R_new' (Kd.R_new' ho1 (Kd.R_lt (by (with_reducible repeat (first | apply Kd.R_alloc | apply Kd.R_drewN | apply Kd.R_drew)); (first | exact HO_7.out | exact Kd.R_mono HO_7.out (fun _ _ => trivial) | exact Kd.R_mono HO_7.out (fun _ hk => hk.1))))) (Kd.R_lt (by (with_reducible repeat (first | apply Kd.R_alloc | apply Kd.R_drewN | apply Kd.R_drew)); (first | exact HO_8.out | exact Kd.R_mono HO_8.out (fun _ _ => trivial) | exact Kd.R_mono HO_8.out (fun _ hk => hk.1))))) (below_size (by repeat (first | (with_reducible first | exact HB.out | apply below_alloc | apply pw_below_drewN | apply below_drew1 | refine below_set ?_ GE239.out) | exact HB.out)))); have n4_ := Aside0.mk (blk_below (g := gb239) (o := .cells #[.int .i64 a0_0, .int .i64 a0_1, .int .i64 a0_2, .int .i64 a0_3, .int .i64 a0_4] 39 (0, 0)) (by (with_reducible repeat (first | refine blk_drewN ?_ _ | refine blk_drew ?_ | refine blk_alloc ?_ _)); exact BK239.out) hb); have n5_ := Aside0.mk (below_step (by repeat (first | (with_reducible first | exact HB.out | apply below_alloc | apply pw_below_drewN | apply below_drew1 | refine below_set ?_ GE239.out) | exact HB.out)) hb); clear HO_7; clear HO_8; clear BK239; clear HB; have HO_7 := n0_; have HO_8 := n1_; have HO253 := n2_; have HO256 := n3_; have BK239 := n4_; have HB := n5_; clear n0_ n1_ n2_ n3_ n4_ n5_; (try clear hb); (try clear hb2); (try clear hk); (try clear hi); (try clear ho0); (try clear ho1)) | ((with_reducible refine gate_dst (N := 10) rfl ?_); (try (refine gate_guard (by rfl) ?_; dsimp only)); refine box_event ?hg (N := 10) ?hd (cs := #[.slice none 0 0, .slice none 0 0, .int .i64 0]) (t := 80) ?hr ?_; (case hd => rfl); (case hg => first | rfl | exact wanted_on rfl rfl rfl (by first | assumption | rfl | (simp [*]; done))); (case hr => first | (go_simp; done) | (go_simp; rfl)); intro gb258 hg w34 hbox hb; have n0_ := Aside0.mk (Kd.R_below (by (with_reducible repeat (first | apply Kd.R_alloc | apply Kd.R_drewN | apply Kd.R_drew)); (first | exact HO_7.out | exact Kd.R_mono HO_7.out (fun _ _ => trivial) | exact Kd.R_mono HO_7.out (fun _ hk => hk.1))) hb); have n1_ := Aside0.mk (Kd.R_below (by (with_reducible repeat (first | apply Kd.R_alloc | apply Kd.R_drewN | apply Kd.R_drew)); (first | exact HO_8.out | exact Kd.R_mono HO_8.out (fun _ _ => trivial) | exact Kd.R_mono HO_8.out (fun _ hk => hk.1))) hb); have n2_ := Aside0.mk (Kd.R_below (by (with_reducible repeat (first | apply Kd.R_alloc | apply Kd.R_drewN | apply Kd.R_drew)); (first | exact HO253.out | exact Kd.R_mono HO253.out (fun _ _ => trivial) | exact Kd.R_mono HO253.out (fun _ hk => hk.1))) hb); have n3_ := Aside0.mk (Kd.R_below (by (with_reducible repeat (first | apply Kd.R_alloc | apply Kd.R_drewN | apply Kd.R_drew)); (first | exact HO256.out | exact Kd.R_mono HO256.out (fun _ _ => trivial) | exact Kd.R_mono HO256.out (fun _ hk => hk.1))) hb); have n4_ := Aside0.mk (blk_below (g := gb239) (o := .cells #[.int .i64 a0_0, .int .i64 a0_1, .int .i64 a0_2, .int .i64 a0_3, .int .i64 a0_4] 39 (0, 0)) (by (with_reducible repeat (first | refine blk_drewN ?_ _ | refine blk_drew ?_ | refine blk_alloc ?_ _)); exact BK239.out) hb); have n5_ := Aside0.mk (below_step (by repeat (first | (with_reducible first | exact HB.out | apply below_alloc | apply pw_below_drewN | apply below_drew1 | refine below_set ?_ GE239.out) | exact HB.out)) hb); have n6_ := Aside0.mk (hbox); have n7_ := Aside0.mk ((by rw [hg]; exact (below_size (by repeat (first | (with_reducible first | exact HB.out | apply below_alloc | apply pw_below_drewN | apply below_drew1 | refine below_set ?_ GE239.out) | exact HB.out))) : w.heap.size ≤ gb258)); have n8_ := Aside0.mk ((by rw [hg]; exact (below_size (by repeat (first | (with_reducible first | exact HB.out | apply below_alloc | apply pw_below_drewN | apply below_drew1 | refine below_set ?_ GE239.out) | exact HB.out))) : w.heap.size ≤ gb258)); have n9_ := Aside0.mk ((by rw [hg]; exact Nat.ne_of_lt (blk_lt (g := gb239) (o := .cells #[.int .i64 a0_0, .int .i64 a0_1, .int .i64 a0_2, .int .i64 a0_3, .int .i64 a0_4] 39 (0, 0)) (by (with_reducible repeat (first | refine blk_drewN ?_ _ | refine blk_drew ?_ | refine blk_alloc ?_ _)); exact BK239.out)) : gb239 ≠ gb258)); have n10_ := Aside0.mk ((by rw [hg]; exact Nat.ne_of_gt (blk_lt (g := gb239) (o := .cells #[.int .i64 a0_0, .int .i64 a0_1, .int .i64 a0_2, .int .i64 a0_3, .int .i64 a0_4] 39 (0, 0)) (by (with_reducible repeat (first | refine blk_drewN ?_ _ | refine blk_drew ?_ | refine blk_alloc ?_ _)); exact BK239.out)) : gb258 ≠ gb239)); clear HO_7; clear HO_8; clear HO253; clear HO256; clear BK239; clear HB; have HO_7 := n0_; have HO_8 := n1_; have HO253 := n2_; have HO256 := n3_; have BK239 := n4_; have HB := n5_; have BK258 := n6_; have GW258 := n7_; have GE258 := n8_; have NB239_258 := n9_; have NB258_239 := n10_; clear n0_ n1_ n2_ n3_ n4_ n5_ n6_ n7_ n8_ n9_ n10_; clear hb hbox hg; obtain ⟨Ao35, co35, eo35⟩ := Kd.R_slice HO253.out; subst eo35; have hnb36 := NB258_239.out; have hnc36 := NB239_258.out; have hcz37_0 : w34.cell? ⟨gb258, 0, none⟩ = some (.slice none 0 0) := (blk_cell BK258.out 0).trans rfl; have hcz37_1 : w34.cell? ⟨gb258, 1, none⟩ = some (.slice none 0 0) := (blk_cell BK258.out 1).trans rfl; have hcz37_2 : w34.cell? ⟨gb258, 2, none⟩ = some (.int .i64 0) := (blk_cell BK258.out 2).trans rfl; have hfz37_0 := blk_frozen BK258.out 0; have hfz37_1 := blk_frozen BK258.out 1; have hfz37_2 := blk_frozen BK258.out 2; obtain ⟨Ao38, co38, eo38⟩ := Kd.R_slice HO256.out; subst eo38))
         have n0_ : Aside0 (Kd.R (Kd.int .i64) 3 (((w34.setCell ⟨gb258, 0, none⟩ (.slice Ao35 t251.length co35)).setCell ⟨gb258, 1, none⟩ (.slice Ao38 t254.length co38)).setCell ⟨gb258, 2, none⟩ (.int .i64 t257)) w.heap.size (fun k_ => some k_ ≠ (.slice Ao32 x8_2.length co32 : Value).ownBlock ∧ some k_ ≠ (.slice Ao35 t251.length co35 : Value).ownBlock ∧ some k_ ≠ (.slice Ao38 t254.length co38 : Value).ownBlock) v243 t242) := ⟨by (with_reducible repeat (first | apply Kd.R_alloc | apply Kd.R_drewN | apply Kd.R_drew)); exact Kd.R_mono (Kd.R_far (p := ⟨gb258, 2, none⟩) (Kd.R_far (p := ⟨gb258, 1, none⟩) (Kd.R_far (p := ⟨gb258, 0, none⟩) (Kd.R_types HO_7.out BK258.out (by decide)) (fun _ hk => hk.2) (.slice Ao35 t251.length co35)) (fun _ hk => hk.2) (.slice Ao38 t254.length co38)) (fun _ hk => hk.2) (.int .i64 t257)) (fun _ hk => ⟨hk.1.1.1, ⟨hk.1.1.2, hk.1.2⟩⟩)⟩
         have n1_ : Aside0 (Kd.R (Kd.int .i64) 3 (((w34.setCell ⟨gb258, 0, none⟩ (.slice Ao35 t251.length co35)).setCell ⟨gb258, 1, none⟩ (.slice Ao38 t254.length co38)).setCell ⟨gb258, 2, none⟩ (.int .i64 t257)) w.heap.size (fun k_ => some k_ ≠ (v243 : Value).ownBlock ∧ some k_ ≠ (.slice Ao35 t251.length co35 : Value).ownBlock ∧ some k_ ≠ (.slice Ao38 t254.length co38 : Value).ownBlock) (.slice Ao32 x8_2.length co32) x8_2) := ⟨by (with_reducible repeat (first | apply Kd.R_alloc | apply Kd.R_drewN | apply Kd.R_drew)); exact Kd.R_mono (Kd.R_far (p := ⟨gb258, 2, none⟩) (Kd.R_far (p := ⟨gb258, 1, none⟩) (Kd.R_far (p := ⟨gb258, 0, none⟩) (Kd.R_types HO_8.out BK258.out (by decide)) (fun _ hk => hk.2) (.slice Ao35 t251.length co35)) (fun _ hk => hk.2) (.slice Ao38 t254.length co38)) (fun _ hk => hk.2) (.int .i64 t257)) (fun _ hk => ⟨hk.1.1.1, ⟨hk.1.1.2, hk.1.2⟩⟩)⟩
         have n2_ : Aside0 (Kd.R (Kd.int .i64) 3 (((w34.setCell ⟨gb258, 0, none⟩ (.slice Ao35 t251.length co35)).setCell ⟨gb258, 1, none⟩ (.slice Ao38 t254.length co38)).setCell ⟨gb258, 2, none⟩ (.int .i64 t257)) w.heap.size (fun k_ => some k_ ≠ (v243 : Value).ownBlock ∧ some k_ ≠ (.slice Ao32 x8_2.length co32 : Value).ownBlock ∧ some k_ ≠ (.slice Ao38 t254.length co38 : Value).ownBlock) (.slice Ao35 t251.length co35) t251) := ⟨by (with_reducible repeat (first | apply Kd.R_alloc | apply Kd.R_drewN | apply Kd.R_drew)); exact Kd.R_mono (Kd.R_far (p := ⟨gb258, 2, none⟩) (Kd.R_far (p := ⟨gb258, 1, none⟩) (Kd.R_far (p := ⟨gb258, 0, none⟩) (Kd.R_types HO253.out BK258.out (by decide)) (fun _ hk => hk.2) (.slice Ao35 t251.length co35)) (fun _ hk => hk.2) (.slice Ao38 t254.length co38)) (fun _ hk => hk.2) (.int .i64 t257)) (fun _ hk => ⟨hk.1.1.2, ⟨hk.1.2, hk.1.1.1⟩⟩)⟩
         have n3_ : Aside0 (Kd.R (Kd.int .i64) 3 (((w34.setCell ⟨gb258, 0, none⟩ (.slice Ao35 t251.length co35)).setCell ⟨gb258, 1, none⟩ (.slice Ao38 t254.length co38)).setCell ⟨gb258, 2, none⟩ (.int .i64 t257)) w.heap.size (fun k_ => some k_ ≠ (v243 : Value).ownBlock ∧ some k_ ≠ (.slice Ao32 x8_2.length co32 : Value).ownBlock ∧ some k_ ≠ (.slice Ao35 t251.length co35 : Value).ownBlock) (.slice Ao38 t254.length co38) t254) := ⟨by (with_reducible repeat (first | apply Kd.R_alloc | apply Kd.R_drewN | apply Kd.R_drew)); exact Kd.R_mono (Kd.R_far (p := ⟨gb258, 2, none⟩) (Kd.R_far (p := ⟨gb258, 1, none⟩) (Kd.R_far (p := ⟨gb258, 0, none⟩) (Kd.R_types HO256.out BK258.out (by decide)) (fun _ hk => hk.2) (.slice Ao35 t251.length co35)) (fun _ hk => hk.2) (.slice Ao38 t254.length co38)) (fun _ hk => hk.2) (.int .i64 t257)) (fun _ hk => ⟨hk.1.1.2, ⟨hk.1.2, hk.1.1.1⟩⟩)⟩
         have n4_ : Aside0 ((((w34.setCell ⟨gb258, 0, none⟩ (.slice Ao35 t251.length co35)).setCell ⟨gb258, 1, none⟩ (.slice Ao38 t254.length co38)).setCell ⟨gb258, 2, none⟩ (.int .i64 t257)).heap[gb239]? = some (.cells #[.int .i64 a0_0, .int .i64 a0_1, .int .i64 a0_2, .int .i64 a0_3, .int .i64 a0_4] 39 (0, 0))) := ⟨by (with_reducible repeat (first | refine blk_drewN ?_ _ | refine blk_drew ?_ | refine blk_alloc ?_ _)); refine blk_far ?_ NB239_258.out _; (with_reducible repeat (first | refine blk_drewN ?_ _ | refine blk_drew ?_ | refine blk_alloc ?_ _)); refine blk_far ?_ NB239_258.out _; (with_reducible repeat (first | refine blk_drewN ?_ _ | refine blk_drew ?_ | refine blk_alloc ?_ _)); refine blk_far ?_ NB239_258.out _; (with_reducible repeat (first | refine blk_drewN ?_ _ | refine blk_drew ?_ | refine blk_alloc ?_ _)); exact BK239.out⟩
         have n5_ : Aside0 ((((w34.setCell ⟨gb258, 0, none⟩ (.slice Ao35 t251.length co35)).setCell ⟨gb258, 1, none⟩ (.slice Ao38 t254.length co38)).setCell ⟨gb258, 2, none⟩ (.int .i64 t257)).heap[gb258]? = some (.cells #[.slice Ao35 t251.length co35, .slice Ao38 t254.length co38, .int .i64 t257] 80 (0, 0))) := ⟨by (with_reducible repeat (first | refine blk_drewN ?_ _ | refine blk_drew ?_ | refine blk_alloc ?_ _)); refine blk_put (cs := #[.slice Ao35 t251.length co35, .slice Ao38 t254.length co38, .int .i64 0]) ?_ 2 _ rfl; (with_reducible repeat (first | refine blk_drewN ?_ _ | refine blk_drew ?_ | refine blk_alloc ?_ _)); refine blk_put (cs := #[.slice Ao35 t251.length co35, .slice none 0 0, .int .i64 0]) ?_ 1 _ rfl; (with_reducible repeat (first | refine blk_drewN ?_ _ | refine blk_drew ?_ | refine blk_alloc ?_ _)); refine blk_put (cs := #[.slice none 0 0, .slice none 0 0, .int .i64 0]) ?_ 0 _ rfl; (with_reducible repeat (first | refine blk_drewN ?_ _ | refine blk_drew ?_ | refine blk_alloc ?_ _)); exact BK258.out⟩
         have n6_ : Aside0 (Below w.heap.size w (((w34.setCell ⟨gb258, 0, none⟩ (.slice Ao35 t251.length co35)).setCell ⟨gb258, 1, none⟩ (.slice Ao38 t254.length co38)).setCell ⟨gb258, 2, none⟩ (.int .i64 t257))) := ⟨by repeat (first | (with_reducible first | exact HB.out | apply below_alloc | apply pw_below_drewN | apply below_drew1 | refine below_set ?_ GE239.out | refine below_set ?_ GE258.out) | exact HB.out)⟩
         (try clear HO_7)
         (try clear HO_8)
         (try clear HO253)
         (try clear HO256)
         (try clear BK239)
         (try clear BK258)
         (try clear HB)
         generalize (((w34.setCell ⟨gb258, 0, none⟩ (.slice Ao35 t251.length co35)).setCell ⟨gb258, 1, none⟩ (.slice Ao38 t254.length co38)).setCell ⟨gb258, 2, none⟩ (.int .i64 t257)) = w39 at n0_ n1_ n2_ n3_ n4_ n5_ n6_ ⊢
         have HO_7 := n0_
         have HO_8 := n1_
         have HO253 := n2_
         have HO256 := n3_
         have BK239 := n4_
         have BK258 := n5_
         have HB := n6_
         clear n0_ n1_ n2_ n3_ n4_ n5_ n6_
         have n0_ := Aside0.mk (Kd.R_drew HO_7.out)
         have n1_ := Aside0.mk (Kd.R_drew HO_8.out)
         have n2_ := Aside0.mk (Kd.R_drew HO253.out)
         have n3_ := Aside0.mk (Kd.R_drew HO256.out)
         have n4_ := Aside0.mk (blk_drew BK239.out)
         have n5_ := Aside0.mk (blk_drew BK258.out)
         have n6_ := Aside0.mk (below_drew1 HB.out)
         clear HO_7
         clear HO_8
         clear HO253
         clear HO256
         clear BK239
         clear BK258
         clear HB
         have HO_7 := n0_
         have HO_8 := n1_
         have HO253 := n2_
         have HO256 := n3_
         have BK239 := n4_
         have BK258 := n5_
         have HB := n6_
         clear n0_ n1_ n2_ n3_ n4_ n5_ n6_
         refine start_ (n := 15) (S := fun w' => w'.cell? ⟨gb258, 0, none⟩ = some (.slice Ao35 t251.length co35) ∧ w'.cell? ⟨gb258, 1, none⟩ = some (.slice Ao38 t254.length co38) ∧ w'.cell? ⟨gb258, 2, none⟩ = some (.int .i64 t257) ∧ w'.cell? ⟨gb239, 0, none⟩ = some (.int .i64 a0_0) ∧ w'.cell? ⟨gb239, 1, none⟩ = some (.int .i64 a0_1) ∧ w'.cell? ⟨gb239, 2, none⟩ = some (.int .i64 a0_2) ∧ w'.cell? ⟨gb239, 3, none⟩ = some (.int .i64 a0_3) ∧ w'.cell? ⟨gb239, 4, none⟩ = some (.int .i64 a0_4)) (ds := []) #[false, false, false, false, false, false, false, false, false, false, false, false, false, false, false] (by kernel_rfl) rfl rfl ⟨(blk_cell BK258.out 0).trans rfl, (blk_cell BK258.out 1).trans rfl, (blk_cell BK258.out 2).trans rfl, (blk_cell BK239.out 0).trans rfl, (blk_cell BK239.out 1).trans rfl, (blk_cell BK239.out 2).trans rfl, (blk_cell BK239.out 3).trans rfl, (blk_cell BK239.out 4).trans rfl⟩ (fun hHeld => ?_); refine with_tabW earshotref13_Frame.tab12 earshotref13_Frame.bits12 (fun HT_ HW_ => ?_)
         generalize w39.drew = w40 at HO_7 HO_8 HO253 HO256 BK239 BK258 HB hHeld ⊢
         refine pure_ (i := 0) (N := some 54) (v := ?_) (a' := ?_) #[true, false, false, false, false, false, false, false, false, false, false, false, false, false, false] rfl rfl (any_of HT_.out (by kernel_rfl)) (fun _ _ _ h => h) (Or.inl ⟨by rfl, ?_⟩) ?_ ?_
         rotate_left
         ·
          intro w'
          go_simp
          with_reducible rfl
         rotate_left
         ·
          simp only [Act.put, List.setIfInBounds_toArray, List.set_cons_zero, List.set_cons_succ, i64_w, i32_w]
          rfl
         refine pure_ (i := 2) (N := some 56) (v := ?_) (a' := ?_) #[true, false, true, false, false, false, false, false, false, false, false, false, false, false, false] rfl rfl (any_of HT_.out (by kernel_rfl)) (fun _ _ _ h => h) (Or.inl ⟨by rfl, ?_⟩) ?_ ?_
         rotate_left
         ·
          intro w'
          go_simp
          with_reducible rfl
         rotate_left
         ·
          simp only [Act.put, List.setIfInBounds_toArray, List.set_cons_zero, List.set_cons_succ, i64_w, i32_w]
          rfl
         refine pure_ (i := 5) (N := some 59) (v := ?_) (a' := ?_) #[true, false, true, false, false, true, false, false, false, false, false, false, false, false, false] rfl rfl (any_of HT_.out (by kernel_rfl)) (fun _ _ _ h => h) (Or.inl ⟨by rfl, ?_⟩) ?_ ?_
         rotate_left
         ·
          intro w'
          go_simp
          with_reducible rfl
         rotate_left
         ·
          simp only [Act.put, List.setIfInBounds_toArray, List.set_cons_zero, List.set_cons_succ, i64_w, i32_w]
          rfl
         refine pure_ (i := 9) (N := some 63) (v := ?_) (a' := ?_) #[true, false, true, false, false, true, false, false, false, true, false, false, false, false, false] rfl rfl (any_of HT_.out (by kernel_rfl)) (fun _ _ _ h => h) (Or.inl ⟨by rfl, ?_⟩) ?_ ?_
         rotate_left
         ·
          intro w'
          go_simp
          with_reducible rfl
         rotate_left
         ·
          simp only [Act.put, List.setIfInBounds_toArray, List.set_cons_zero, List.set_cons_succ, i64_w, i32_w]
          rfl
         refine take_ (i := 1) (N := some 55) (v := ?_) (a' := ?_) #[true, true, true, false, false, true, false, false, false, true, false, false, false, false, false] rfl rfl (take_ofW HT_.out HW_.out (by kernel_rfl)) (fun _ _ _ h => h) (Or.inl ⟨by rfl, ?_⟩) hHeld ?_ ?_
         rotate_left
         ·
          rintro w' ⟨s0, s1, s2, s3, s4, s5, s6, s7⟩
          go_simp
          with_reducible rfl
         rotate_left
         ·
          simp only [Act.put, List.setIfInBounds_toArray, List.set_cons_zero, List.set_cons_succ, i64_w, i32_w]
          rfl
         refine take_ (i := 3) (N := some 57) (v := ?_) (a' := ?_) #[true, true, true, true, false, true, false, false, false, true, false, false, false, false, false] rfl rfl (take_ofW HT_.out HW_.out (by kernel_rfl)) (fun _ _ _ h => h) (Or.inl ⟨by rfl, ?_⟩) hHeld ?_ ?_
         rotate_left
         ·
          rintro w' ⟨s0, s1, s2, s3, s4, s5, s6, s7⟩
          go_simp
          with_reducible rfl
         rotate_left
         ·
          simp only [Act.put, List.setIfInBounds_toArray, List.set_cons_zero, List.set_cons_succ, i64_w, i32_w]
          rfl
         refine take_ (i := 6) (N := some 60) (v := ?_) (a' := ?_) #[true, true, true, true, false, true, true, false, false, true, false, false, false, false, false] rfl rfl (take_ofW HT_.out HW_.out (by kernel_rfl)) (fun _ _ _ h => h) (Or.inl ⟨by rfl, ?_⟩) hHeld ?_ ?_
         rotate_left
         ·
          rintro w' ⟨s0, s1, s2, s3, s4, s5, s6, s7⟩
          go_simp
          with_reducible rfl
         rotate_left
         ·
          simp only [Act.put, List.setIfInBounds_toArray, List.set_cons_zero, List.set_cons_succ, i64_w, i32_w]
          rfl
         refine pure_ (i := 7) (N := some 61) (v := ?_) (a' := ?_) #[true, true, true, true, false, true, true, true, false, true, false, false, false, false, false] rfl rfl (any_of HT_.out (by kernel_rfl)) (fun _ _ _ h => h) (Or.inl ⟨by rfl, ?_⟩) ?_ ?_
         rotate_left
         ·
          intro w'
          go_simp
          with_reducible rfl
         rotate_left
         ·
          simp only [Act.put, List.setIfInBounds_toArray, List.set_cons_zero, List.set_cons_succ, i64_w, i32_w]
          rfl
         refine pure_ (i := 8) (N := some 62) (v := ?_) (a' := ?_) #[true, true, true, true, false, true, true, true, true, true, false, false, false, false, false] rfl rfl (any_of HT_.out (by kernel_rfl)) (fun _ _ _ h => h) (Or.inl ⟨by rfl, ?_⟩) ?_ ?_
         rotate_left
         ·
          intro w'
          go_simp
          with_reducible rfl
         rotate_left
         ·
          simp only [Act.put, List.setIfInBounds_toArray, List.set_cons_zero, List.set_cons_succ, i64_w, i32_w]
          rfl
         refine take_ (i := 10) (N := some 64) (v := ?_) (a' := ?_) #[true, true, true, true, false, true, true, true, true, true, true, false, false, false, false] rfl rfl (take_ofW HT_.out HW_.out (by kernel_rfl)) (fun _ _ _ h => h) (Or.inl ⟨by rfl, ?_⟩) hHeld ?_ ?_
         rotate_left
         ·
          rintro w' ⟨s0, s1, s2, s3, s4, s5, s6, s7⟩
          go_simp
          with_reducible rfl
         rotate_left
         ·
          simp only [Act.put, List.setIfInBounds_toArray, List.set_cons_zero, List.set_cons_succ, i64_w, i32_w]
          rfl
         refine one_ (i := 4) (N := some 58) #[true, true, true, true, true, true, true, true, true, true, true, false, false, false, false] rfl rfl (one_of HT_.out (by kernel_rfl)) (by decide) (fun K hK => ?_)
         refine goes_ Tryd.func59 (by kernel_rfl) rfl #[.slice Ao35 t251.length co35, .slice Ao38 t254.length co38] (by first | rfl | exact wanted_on rfl rfl rfl (by first | assumption | rfl | (simp [*]; done))) rfl rfl (by (try simp only [List.map_toArray, List.map_cons, List.map_nil]); first | done | rfl | (simp only [List.length_drop, List.length_take]; rfl)) ?_
         with_reducible refine (earshotref10_Power.calls k2 _ _ t251 _ _ t254 t259 _ ?side1 ?side2 ?side3 ?side4 A27.out).mono ?_
         (case side1 => repeat (first | exact (Kd.R_reads' HO253.out).2.2 | (with_reducible refine Kd.C_alloc ?_ _) | (with_reducible refine Kd.C_drewN ?_ _) | (with_reducible refine Kd.C_drew ?_)))
         (case side2 => exact (Kd.R_reads' HO253.out).2.1)
         (case side3 => repeat (first | exact (Kd.R_reads' HO256.out).2.2 | (with_reducible refine Kd.C_alloc ?_ _) | (with_reducible refine Kd.C_drewN ?_ _) | (with_reducible refine Kd.C_drew ?_)))
         (case side4 => exact (Kd.R_reads' HO256.out).2.1)
         rintro e w41 ⟨v260, rfl, ho0, hb⟩
         refine ⟨_, rfl, ?_⟩
         have n0_ := Aside0.mk (Kd.R_elder' (by (with_reducible repeat (first | apply Kd.R_alloc | apply Kd.R_drewN | apply Kd.R_drew)); (first | exact HO_7.out | exact Kd.R_mono HO_7.out (fun _ _ => trivial) | exact Kd.R_mono HO_7.out (fun _ hk => hk.1))) (Kd.R_base ho0) hb)
         have n1_ := Aside0.mk (Kd.R_elder' (by (with_reducible repeat (first | apply Kd.R_alloc | apply Kd.R_drewN | apply Kd.R_drew)); (first | exact HO_8.out | exact Kd.R_mono HO_8.out (fun _ _ => trivial) | exact Kd.R_mono HO_8.out (fun _ hk => hk.1))) (Kd.R_base ho0) hb)
         have n2_ := Aside0.mk (Kd.R_elder' (by (with_reducible repeat (first | apply Kd.R_alloc | apply Kd.R_drewN | apply Kd.R_drew)); (first | exact HO253.out | exact Kd.R_mono HO253.out (fun _ _ => trivial) | exact Kd.R_mono HO253.out (fun _ hk => hk.1))) (Kd.R_base ho0) hb)
         have n3_ := Aside0.mk (Kd.R_elder' (by (with_reducible repeat (first | apply Kd.R_alloc | apply Kd.R_drewN | apply Kd.R_drew)); (first | exact HO256.out | exact Kd.R_mono HO256.out (fun _ _ => trivial) | exact Kd.R_mono HO256.out (fun _ hk => hk.1))) (Kd.R_base ho0) hb)
         have n4_ := Aside0.mk (Kd.R_lower (Kd.R_new' (Kd.R_new' (Kd.R_new' (Kd.R_new' ho0 (Kd.R_lt (by (with_reducible repeat (first | apply Kd.R_alloc | apply Kd.R_drewN | apply Kd.R_drew)); (first | exact HO_7.out | exact Kd.R_mono HO_7.out (fun _ _ => trivial) | exact Kd.R_mono HO_7.out (fun _ hk => hk.1))))) (Kd.R_lt (by (with_reducible repeat (first | apply Kd.R_alloc | apply Kd.R_drewN | apply Kd.R_drew)); (first | exact HO_8.out | exact Kd.R_mono HO_8.out (fun _ _ => trivial) | exact Kd.R_mono HO_8.out (fun _ hk => hk.1))))) (Kd.R_lt (by (with_reducible repeat (first | apply Kd.R_alloc | apply Kd.R_drewN | apply Kd.R_drew)); (first | exact HO253.out | exact Kd.R_mono HO253.out (fun _ _ => trivial) | exact Kd.R_mono HO253.out (fun _ hk => hk.1))))) (Kd.R_lt (by (with_reducible repeat (first | apply Kd.R_alloc | apply Kd.R_drewN | apply Kd.R_drew)); (first | exact HO256.out | exact Kd.R_mono HO256.out (fun _ _ => trivial) | exact Kd.R_mono HO256.out (fun _ hk => hk.1))))) (below_size (by repeat (first | (with_reducible first | exact HB.out | apply below_alloc | apply pw_below_drewN | apply below_drew1 | refine below_set ?_ GE239.out | refine below_set ?_ GE258.out) | exact HB.out))))
         have n5_ := Aside0.mk (blk_below (g := gb239) (o := .cells #[.int .i64 a0_0, .int .i64 a0_1, .int .i64 a0_2, .int .i64 a0_3, .int .i64 a0_4] 39 (0, 0)) (by (with_reducible repeat (first | refine blk_drewN ?_ _ | refine blk_drew ?_ | refine blk_alloc ?_ _)); exact BK239.out) hb)
         have n6_ := Aside0.mk (blk_below (g := gb258) (o := .cells #[.slice Ao35 t251.length co35, .slice Ao38 t254.length co38, .int .i64 t257] 80 (0, 0)) (by (with_reducible repeat (first | refine blk_drewN ?_ _ | refine blk_drew ?_ | refine blk_alloc ?_ _)); exact BK258.out) hb)
         have n7_ := Aside0.mk (below_step (by repeat (first | (with_reducible first | exact HB.out | apply below_alloc | apply pw_below_drewN | apply below_drew1 | refine below_set ?_ GE239.out | refine below_set ?_ GE258.out) | exact HB.out)) hb)
         clear HO_7
         clear HO_8
         clear HO253
         clear HO256
         clear BK239
         clear BK258
         clear HB
         have HO_7 := n0_
         have HO_8 := n1_
         have HO253 := n2_
         have HO256 := n3_
         have HO261 := n4_
         have BK239 := n5_
         have BK258 := n6_
         have HB := n7_
         clear n0_ n1_ n2_ n3_ n4_ n5_ n6_ n7_
         (try clear hb)
         (try clear hb2)
         (try clear hk)
         (try clear hi)
         (try clear ho0)
         refine hK.out _ _ ⟨(blk_cell BK258.out 0).trans rfl, (blk_cell BK258.out 1).trans rfl, (blk_cell BK258.out 2).trans rfl, (blk_cell BK239.out 0).trans rfl, (blk_cell BK239.out 1).trans rfl, (blk_cell BK239.out 2).trans rfl, (blk_cell BK239.out 3).trans rfl, (blk_cell BK239.out 4).trans rfl⟩ (fun hHeld => ?_)
         clear hK K
         refine norm_ (a' := ?_) ?_ ?_
         rotate_left
         ·
          show Act.put _ (some 58) _ = _
          simp only [Act.put, List.setIfInBounds_toArray, List.set_cons_zero, List.set_cons_succ, i64_w, i32_w]
          rfl
         refine one_ (i := 11) (N := some 65) #[true, true, true, true, true, true, true, true, true, true, true, true, false, false, false] rfl rfl (one_of HT_.out (by kernel_rfl)) (by decide) (fun K hK => ?_)
         refine goes_ Tryd.func60 (by kernel_rfl) rfl #[.int .i64 (wrap64 ((wrap64 (Int.tdiv a0_0 2)) + 1)), .int .i64 a0_2] (by first | rfl | exact wanted_on rfl rfl rfl (by first | assumption | rfl | (simp [*]; done))) rfl rfl (by (try simp only [List.map_toArray, List.map_cons, List.map_nil]); first | done | rfl | (simp only [List.length_drop, List.length_take]; rfl)) ?_
         with_reducible refine (earshotref11_Edges.calls k2 (wrap64 ((wrap64 (Int.tdiv a0_0 2)) + 1)) a0_2 t262 _ A28.out).mono ?_
         rintro e w42 ⟨v263, rfl, ho0, hb⟩
         refine ⟨_, rfl, ?_⟩
         have n0_ := Aside0.mk (Kd.R_elder' (by (with_reducible repeat (first | apply Kd.R_alloc | apply Kd.R_drewN | apply Kd.R_drew)); (first | exact HO_7.out | exact Kd.R_mono HO_7.out (fun _ _ => trivial) | exact Kd.R_mono HO_7.out (fun _ hk => hk.1))) (Kd.R_base ho0) hb)
         have n1_ := Aside0.mk (Kd.R_elder' (by (with_reducible repeat (first | apply Kd.R_alloc | apply Kd.R_drewN | apply Kd.R_drew)); (first | exact HO_8.out | exact Kd.R_mono HO_8.out (fun _ _ => trivial) | exact Kd.R_mono HO_8.out (fun _ hk => hk.1))) (Kd.R_base ho0) hb)
         have n2_ := Aside0.mk (Kd.R_elder' (by (with_reducible repeat (first | apply Kd.R_alloc | apply Kd.R_drewN | apply Kd.R_drew)); (first | exact HO253.out | exact Kd.R_mono HO253.out (fun _ _ => trivial) | exact Kd.R_mono HO253.out (fun _ hk => hk.1))) (Kd.R_base ho0) hb)
         have n3_ := Aside0.mk (Kd.R_elder' (by (with_reducible repeat (first | apply Kd.R_alloc | apply Kd.R_drewN | apply Kd.R_drew)); (first | exact HO256.out | exact Kd.R_mono HO256.out (fun _ _ => trivial) | exact Kd.R_mono HO256.out (fun _ hk => hk.1))) (Kd.R_base ho0) hb)
         have n4_ := Aside0.mk (Kd.R_elder' (by (with_reducible repeat (first | apply Kd.R_alloc | apply Kd.R_drewN | apply Kd.R_drew)); (first | exact HO261.out | exact Kd.R_mono HO261.out (fun _ _ => trivial) | exact Kd.R_mono HO261.out (fun _ hk => hk.1))) (Kd.R_base ho0) hb)
         have n5_ := Aside0.mk (Kd.R_lower (Kd.R_new' (Kd.R_new' (Kd.R_new' (Kd.R_new' (Kd.R_new' ho0 (Kd.R_lt (by (with_reducible repeat (first | apply Kd.R_alloc | apply Kd.R_drewN | apply Kd.R_drew)); (first | exact HO_7.out | exact Kd.R_mono HO_7.out (fun _ _ => trivial) | exact Kd.R_mono HO_7.out (fun _ hk => hk.1))))) (Kd.R_lt (by (with_reducible repeat (first | apply Kd.R_alloc | apply Kd.R_drewN | apply Kd.R_drew)); (first | exact HO_8.out | exact Kd.R_mono HO_8.out (fun _ _ => trivial) | exact Kd.R_mono HO_8.out (fun _ hk => hk.1))))) (Kd.R_lt (by (with_reducible repeat (first | apply Kd.R_alloc | apply Kd.R_drewN | apply Kd.R_drew)); (first | exact HO253.out | exact Kd.R_mono HO253.out (fun _ _ => trivial) | exact Kd.R_mono HO253.out (fun _ hk => hk.1))))) (Kd.R_lt (by (with_reducible repeat (first | apply Kd.R_alloc | apply Kd.R_drewN | apply Kd.R_drew)); (first | exact HO256.out | exact Kd.R_mono HO256.out (fun _ _ => trivial) | exact Kd.R_mono HO256.out (fun _ hk => hk.1))))) (Kd.R_lt (by (with_reducible repeat (first | apply Kd.R_alloc | apply Kd.R_drewN | apply Kd.R_drew)); (first | exact HO261.out | exact Kd.R_mono HO261.out (fun _ _ => trivial) | exact Kd.R_mono HO261.out (fun _ hk => hk.1))))) (below_size (by repeat (first | (with_reducible first | exact HB.out | apply below_alloc | apply pw_below_drewN | apply below_drew1 | refine below_set ?_ GE239.out | refine below_set ?_ GE258.out) | exact HB.out))))
         have n6_ := Aside0.mk (blk_below (g := gb239) (o := .cells #[.int .i64 a0_0, .int .i64 a0_1, .int .i64 a0_2, .int .i64 a0_3, .int .i64 a0_4] 39 (0, 0)) (by (with_reducible repeat (first | refine blk_drewN ?_ _ | refine blk_drew ?_ | refine blk_alloc ?_ _)); exact BK239.out) hb)
         have n7_ := Aside0.mk (blk_below (g := gb258) (o := .cells #[.slice Ao35 t251.length co35, .slice Ao38 t254.length co38, .int .i64 t257] 80 (0, 0)) (by (with_reducible repeat (first | refine blk_drewN ?_ _ | refine blk_drew ?_ | refine blk_alloc ?_ _)); exact BK258.out) hb)
         have n8_ := Aside0.mk (below_step (by repeat (first | (with_reducible first | exact HB.out | apply below_alloc | apply pw_below_drewN | apply below_drew1 | refine below_set ?_ GE239.out | refine below_set ?_ GE258.out) | exact HB.out)) hb)
         clear HO_7
         clear HO_8
         clear HO253
         clear HO256
         clear HO261
         clear BK239
         clear BK258
         clear HB
         have HO_7 := n0_
         have HO_8 := n1_
         have HO253 := n2_
         have HO256 := n3_
         have HO261 := n4_
         have HO264 := n5_
         have BK239 := n6_
         have BK258 := n7_
         have HB := n8_
         clear n0_ n1_ n2_ n3_ n4_ n5_ n6_ n7_ n8_
         (try clear hb)
         (try clear hb2)
         (try clear hk)
         (try clear hi)
         (try clear ho0)
         obtain ⟨Ao43, co43, eo43⟩ := Kd.R_slice HO261.out
         (first | subst eo43 | (injection eo43 with f1_ f2_ f3_; have f4_ := f1_.symm; have f5_ := f3_.symm; clear f1_ f2_ f3_; subst f4_; subst f5_))
         obtain ⟨Ao44, co44, eo44⟩ := Kd.R_slice HO264.out
         (first | subst eo44 | (injection eo44 with f1_ f2_ f3_; have f4_ := f1_.symm; have f5_ := f3_.symm; clear f1_ f2_ f3_; subst f4_; subst f5_))
         refine hK.out _ _ ⟨(blk_cell BK258.out 0).trans rfl, (blk_cell BK258.out 1).trans rfl, (blk_cell BK258.out 2).trans rfl, (blk_cell BK239.out 0).trans rfl, (blk_cell BK239.out 1).trans rfl, (blk_cell BK239.out 2).trans rfl, (blk_cell BK239.out 3).trans rfl, (blk_cell BK239.out 4).trans rfl⟩ (fun hHeld => ?_)
         clear hK K
         refine norm_ (a' := ?_) ?_ ?_
         rotate_left
         ·
          show Act.put _ (some 65) _ = _
          simp only [Act.put, List.setIfInBounds_toArray, List.set_cons_zero, List.set_cons_succ, i64_w, i32_w]
          rfl
         refine one_ (i := 12) (N := some 66) #[true, true, true, true, true, true, true, true, true, true, true, true, true, false, false] rfl rfl (one_of HT_.out (by kernel_rfl)) (by decide) (fun K hK => ?_)
         refine goes_ Tryd.func58 (by kernel_rfl) rfl #[.slice Ao43 t259.length co43, .slice Ao44 t262.length co44] (by first | rfl | exact wanted_on rfl rfl rfl (by first | assumption | rfl | (simp [*]; done))) rfl rfl (by (try simp only [List.map_toArray, List.map_cons, List.map_nil]); first | done | rfl | (simp only [List.length_drop, List.length_take]; rfl)) ?_
         with_reducible refine (earshotref11_Bands.calls _ _ t259 _ _ t262 t265 _ ?side1 ?side2 ?side3 ?side4 A29.out).mono ?_
         (case side1 => repeat (first | exact (Kd.R_reads' HO261.out).2.2 | (with_reducible refine Kd.C_alloc ?_ _) | (with_reducible refine Kd.C_drewN ?_ _) | (with_reducible refine Kd.C_drew ?_)))
         (case side2 => exact (Kd.R_reads' HO261.out).2.1)
         (case side3 => repeat (first | exact (Kd.R_reads' HO264.out).2.2 | (with_reducible refine Kd.C_alloc ?_ _) | (with_reducible refine Kd.C_drewN ?_ _) | (with_reducible refine Kd.C_drew ?_)))
         (case side4 => exact (Kd.R_reads' HO264.out).2.1)
         rintro e w45 ⟨v266, rfl, ho0, hb⟩
         refine ⟨_, rfl, ?_⟩
         have n0_ := Aside0.mk (Kd.R_elder' (by (with_reducible repeat (first | apply Kd.R_alloc | apply Kd.R_drewN | apply Kd.R_drew)); (first | exact HO_7.out | exact Kd.R_mono HO_7.out (fun _ _ => trivial) | exact Kd.R_mono HO_7.out (fun _ hk => hk.1))) (Kd.R_base ho0) hb)
         have n1_ := Aside0.mk (Kd.R_elder' (by (with_reducible repeat (first | apply Kd.R_alloc | apply Kd.R_drewN | apply Kd.R_drew)); (first | exact HO_8.out | exact Kd.R_mono HO_8.out (fun _ _ => trivial) | exact Kd.R_mono HO_8.out (fun _ hk => hk.1))) (Kd.R_base ho0) hb)
         have n2_ := Aside0.mk (Kd.R_elder' (by (with_reducible repeat (first | apply Kd.R_alloc | apply Kd.R_drewN | apply Kd.R_drew)); (first | exact HO253.out | exact Kd.R_mono HO253.out (fun _ _ => trivial) | exact Kd.R_mono HO253.out (fun _ hk => hk.1))) (Kd.R_base ho0) hb)
         have n3_ := Aside0.mk (Kd.R_elder' (by (with_reducible repeat (first | apply Kd.R_alloc | apply Kd.R_drewN | apply Kd.R_drew)); (first | exact HO256.out | exact Kd.R_mono HO256.out (fun _ _ => trivial) | exact Kd.R_mono HO256.out (fun _ hk => hk.1))) (Kd.R_base ho0) hb)
         have n4_ := Aside0.mk (Kd.R_elder' (by (with_reducible repeat (first | apply Kd.R_alloc | apply Kd.R_drewN | apply Kd.R_drew)); (first | exact HO261.out | exact Kd.R_mono HO261.out (fun _ _ => trivial) | exact Kd.R_mono HO261.out (fun _ hk => hk.1))) (Kd.R_base ho0) hb)
         have n5_ := Aside0.mk (Kd.R_elder' (by (with_reducible repeat (first | apply Kd.R_alloc | apply Kd.R_drewN | apply Kd.R_drew)); (first | exact HO264.out | exact Kd.R_mono HO264.out (fun _ _ => trivial) | exact Kd.R_mono HO264.out (fun _ hk => hk.1))) (Kd.R_base ho0) hb)
         have n6_ := Aside0.mk (Kd.R_lower (Kd.R_new' (Kd.R_new' (Kd.R_new' (Kd.R_new' (Kd.R_new' (Kd.R_new' ho0 (Kd.R_lt (by (with_reducible repeat (first | apply Kd.R_alloc | apply Kd.R_drewN | apply Kd.R_drew)); (first | exact HO_7.out | exact Kd.R_mono HO_7.out (fun _ _ => trivial) | exact Kd.R_mono HO_7.out (fun _ hk => hk.1))))) (Kd.R_lt (by (with_reducible repeat (first | apply Kd.R_alloc | apply Kd.R_drewN | apply Kd.R_drew)); (first | exact HO_8.out | exact Kd.R_mono HO_8.out (fun _ _ => trivial) | exact Kd.R_mono HO_8.out (fun _ hk => hk.1))))) (Kd.R_lt (by (with_reducible repeat (first | apply Kd.R_alloc | apply Kd.R_drewN | apply Kd.R_drew)); (first | exact HO253.out | exact Kd.R_mono HO253.out (fun _ _ => trivial) | exact Kd.R_mono HO253.out (fun _ hk => hk.1))))) (Kd.R_lt (by (with_reducible repeat (first | apply Kd.R_alloc | apply Kd.R_drewN | apply Kd.R_drew)); (first | exact HO256.out | exact Kd.R_mono HO256.out (fun _ _ => trivial) | exact Kd.R_mono HO256.out (fun _ hk => hk.1))))) (Kd.R_lt (by (with_reducible repeat (first | apply Kd.R_alloc | apply Kd.R_drewN | apply Kd.R_drew)); (first | exact HO261.out | exact Kd.R_mono HO261.out (fun _ _ => trivial) | exact Kd.R_mono HO261.out (fun _ hk => hk.1))))) (Kd.R_lt (by (with_reducible repeat (first | apply Kd.R_alloc | apply Kd.R_drewN | apply Kd.R_drew)); (first | exact HO264.out | exact Kd.R_mono HO264.out (fun _ _ => trivial) | exact Kd.R_mono HO264.out (fun _ hk => hk.1))))) (below_size (by repeat (first | (with_reducible first | exact HB.out | apply below_alloc | apply pw_below_drewN | apply below_drew1 | refine below_set ?_ GE239.out | refine below_set ?_ GE258.out) | exact HB.out))))
         have n7_ := Aside0.mk (blk_below (g := gb239) (o := .cells #[.int .i64 a0_0, .int .i64 a0_1, .int .i64 a0_2, .int .i64 a0_3, .int .i64 a0_4] 39 (0, 0)) (by (with_reducible repeat (first | refine blk_drewN ?_ _ | refine blk_drew ?_ | refine blk_alloc ?_ _)); exact BK239.out) hb)
         have n8_ := Aside0.mk (blk_below (g := gb258) (o := .cells #[.slice Ao35 t251.length co35, .slice Ao38 t254.length co38, .int .i64 t257] 80 (0, 0)) (by (with_reducible repeat (first | refine blk_drewN ?_ _ | refine blk_drew ?_ | refine blk_alloc ?_ _)); exact BK258.out) hb)
         have n9_ := Aside0.mk (below_step (by repeat (first | (with_reducible first | exact HB.out | apply below_alloc | apply pw_below_drewN | apply below_drew1 | refine below_set ?_ GE239.out | refine below_set ?_ GE258.out) | exact HB.out)) hb)
         clear HO_7
         clear HO_8
         clear HO253
         clear HO256
         clear HO261
         clear HO264
         clear BK239
         clear BK258
         clear HB
         have HO_7 := n0_
         have HO_8 := n1_
         have HO253 := n2_
         have HO256 := n3_
         have HO261 := n4_
         have HO264 := n5_
         have HO267 := n6_
         have BK239 := n7_
         have BK258 := n8_
         have HB := n9_
         clear n0_ n1_ n2_ n3_ n4_ n5_ n6_ n7_ n8_ n9_
         (try clear hb)
         (try clear hb2)
         (try clear hk)
         (try clear hi)
         (try clear ho0)
         obtain ⟨Ao46, co46, eo46⟩ := Kd.R_slice HO267.out
         (first | subst eo46 | (injection eo46 with f1_ f2_ f3_; have f4_ := f1_.symm; have f5_ := f3_.symm; clear f1_ f2_ f3_; subst f4_; subst f5_))
         refine hK.out _ _ ⟨(blk_cell BK258.out 0).trans rfl, (blk_cell BK258.out 1).trans rfl, (blk_cell BK258.out 2).trans rfl, (blk_cell BK239.out 0).trans rfl, (blk_cell BK239.out 1).trans rfl, (blk_cell BK239.out 2).trans rfl, (blk_cell BK239.out 3).trans rfl, (blk_cell BK239.out 4).trans rfl⟩ (fun hHeld => ?_)
         clear hK K
         refine norm_ (a' := ?_) ?_ ?_
         rotate_left
         ·
          show Act.put _ (some 66) _ = _
          simp only [Act.put, List.setIfInBounds_toArray, List.set_cons_zero, List.set_cons_succ, i64_w, i32_w]
          rfl
         refine one_ (i := 13) (N := some 67) #[true, true, true, true, true, true, true, true, true, true, true, true, true, true, false] rfl rfl (one_of HT_.out (by kernel_rfl)) (by decide) (fun K hK => ?_)
         refine goes_ Tryd.func18 (by kernel_rfl) rfl #[.slice Ao46 t265.length co46] (by first | rfl | exact wanted_on rfl rfl rfl (by first | assumption | rfl | (simp [*]; done))) rfl rfl (by (try simp only [List.map_toArray, List.map_cons, List.map_nil]); first | done | rfl | (simp only [List.length_drop, List.length_take]; rfl)) ?_
         with_reducible refine (earshotref12_Logs.calls k2 _ _ t265 t268 _ ?side1 ?side2 A30.out).mono ?_
         (case side1 => repeat (first | exact (Kd.R_reads' HO267.out).2.2 | (with_reducible refine Kd.C_alloc ?_ _) | (with_reducible refine Kd.C_drewN ?_ _) | (with_reducible refine Kd.C_drew ?_)))
         (case side2 => exact (Kd.R_reads' HO267.out).2.1)
         rintro e w47 ⟨v269, rfl, ho0, hb⟩
         refine ⟨_, rfl, ?_⟩
         have n0_ := Aside0.mk (Kd.R_elder' (by (with_reducible repeat (first | apply Kd.R_alloc | apply Kd.R_drewN | apply Kd.R_drew)); (first | exact HO_7.out | exact Kd.R_mono HO_7.out (fun _ _ => trivial) | exact Kd.R_mono HO_7.out (fun _ hk => hk.1))) (Kd.R_base ho0) hb)
         have n1_ := Aside0.mk (Kd.R_elder' (by (with_reducible repeat (first | apply Kd.R_alloc | apply Kd.R_drewN | apply Kd.R_drew)); (first | exact HO_8.out | exact Kd.R_mono HO_8.out (fun _ _ => trivial) | exact Kd.R_mono HO_8.out (fun _ hk => hk.1))) (Kd.R_base ho0) hb)
         have n2_ := Aside0.mk (Kd.R_elder' (by (with_reducible repeat (first | apply Kd.R_alloc | apply Kd.R_drewN | apply Kd.R_drew)); (first | exact HO253.out | exact Kd.R_mono HO253.out (fun _ _ => trivial) | exact Kd.R_mono HO253.out (fun _ hk => hk.1))) (Kd.R_base ho0) hb)
         have n3_ := Aside0.mk (Kd.R_elder' (by (with_reducible repeat (first | apply Kd.R_alloc | apply Kd.R_drewN | apply Kd.R_drew)); (first | exact HO256.out | exact Kd.R_mono HO256.out (fun _ _ => trivial) | exact Kd.R_mono HO256.out (fun _ hk => hk.1))) (Kd.R_base ho0) hb)
         have n4_ := Aside0.mk (Kd.R_elder' (by (with_reducible repeat (first | apply Kd.R_alloc | apply Kd.R_drewN | apply Kd.R_drew)); (first | exact HO261.out | exact Kd.R_mono HO261.out (fun _ _ => trivial) | exact Kd.R_mono HO261.out (fun _ hk => hk.1))) (Kd.R_base ho0) hb)
         have n5_ := Aside0.mk (Kd.R_elder' (by (with_reducible repeat (first | apply Kd.R_alloc | apply Kd.R_drewN | apply Kd.R_drew)); (first | exact HO264.out | exact Kd.R_mono HO264.out (fun _ _ => trivial) | exact Kd.R_mono HO264.out (fun _ hk => hk.1))) (Kd.R_base ho0) hb)
         have n6_ := Aside0.mk (Kd.R_elder' (by (with_reducible repeat (first | apply Kd.R_alloc | apply Kd.R_drewN | apply Kd.R_drew)); (first | exact HO267.out | exact Kd.R_mono HO267.out (fun _ _ => trivial) | exact Kd.R_mono HO267.out (fun _ hk => hk.1))) (Kd.R_base ho0) hb)
         have n7_ := Aside0.mk (Kd.R_lower (Kd.R_new' (Kd.R_new' (Kd.R_new' (Kd.R_new' (Kd.R_new' (Kd.R_new' (Kd.R_new' ho0 (Kd.R_lt (by (with_reducible repeat (first | apply Kd.R_alloc | apply Kd.R_drewN | apply Kd.R_drew)); (first | exact HO_7.out | exact Kd.R_mono HO_7.out (fun _ _ => trivial) | exact Kd.R_mono HO_7.out (fun _ hk => hk.1))))) (Kd.R_lt (by (with_reducible repeat (first | apply Kd.R_alloc | apply Kd.R_drewN | apply Kd.R_drew)); (first | exact HO_8.out | exact Kd.R_mono HO_8.out (fun _ _ => trivial) | exact Kd.R_mono HO_8.out (fun _ hk => hk.1))))) (Kd.R_lt (by (with_reducible repeat (first | apply Kd.R_alloc | apply Kd.R_drewN | apply Kd.R_drew)); (first | exact HO253.out | exact Kd.R_mono HO253.out (fun _ _ => trivial) | exact Kd.R_mono HO253.out (fun _ hk => hk.1))))) (Kd.R_lt (by (with_reducible repeat (first | apply Kd.R_alloc | apply Kd.R_drewN | apply Kd.R_drew)); (first | exact HO256.out | exact Kd.R_mono HO256.out (fun _ _ => trivial) | exact Kd.R_mono HO256.out (fun _ hk => hk.1))))) (Kd.R_lt (by (with_reducible repeat (first | apply Kd.R_alloc | apply Kd.R_drewN | apply Kd.R_drew)); (first | exact HO261.out | exact Kd.R_mono HO261.out (fun _ _ => trivial) | exact Kd.R_mono HO261.out (fun _ hk => hk.1))))) (Kd.R_lt (by (with_reducible repeat (first | apply Kd.R_alloc | apply Kd.R_drewN | apply Kd.R_drew)); (first | exact HO264.out | exact Kd.R_mono HO264.out (fun _ _ => trivial) | exact Kd.R_mono HO264.out (fun _ hk => hk.1))))) (Kd.R_lt (by (with_reducible repeat (first | apply Kd.R_alloc | apply Kd.R_drewN | apply Kd.R_drew)); (first | exact HO267.out | exact Kd.R_mono HO267.out (fun _ _ => trivial) | exact Kd.R_mono HO267.out (fun _ hk => hk.1))))) (below_size (by repeat (first | (with_reducible first | exact HB.out | apply below_alloc | apply pw_below_drewN | apply below_drew1 | refine below_set ?_ GE239.out | refine below_set ?_ GE258.out) | exact HB.out))))
         have n8_ := Aside0.mk (blk_below (g := gb239) (o := .cells #[.int .i64 a0_0, .int .i64 a0_1, .int .i64 a0_2, .int .i64 a0_3, .int .i64 a0_4] 39 (0, 0)) (by (with_reducible repeat (first | refine blk_drewN ?_ _ | refine blk_drew ?_ | refine blk_alloc ?_ _)); exact BK239.out) hb)
         have n9_ := Aside0.mk (blk_below (g := gb258) (o := .cells #[.slice Ao35 t251.length co35, .slice Ao38 t254.length co38, .int .i64 t257] 80 (0, 0)) (by (with_reducible repeat (first | refine blk_drewN ?_ _ | refine blk_drew ?_ | refine blk_alloc ?_ _)); exact BK258.out) hb)
         have n10_ := Aside0.mk (below_step (by repeat (first | (with_reducible first | exact HB.out | apply below_alloc | apply pw_below_drewN | apply below_drew1 | refine below_set ?_ GE239.out | refine below_set ?_ GE258.out) | exact HB.out)) hb)
         clear HO_7
         clear HO_8
         clear HO253
         clear HO256
         clear HO261
         clear HO264
         clear HO267
         clear BK239
         clear BK258
         clear HB
         have HO_7 := n0_
         have HO_8 := n1_
         have HO253 := n2_
         have HO256 := n3_
         have HO261 := n4_
         have HO264 := n5_
         have HO267 := n6_
         have HO270 := n7_
         have BK239 := n8_
         have BK258 := n9_
         have HB := n10_
         clear n0_ n1_ n2_ n3_ n4_ n5_ n6_ n7_ n8_ n9_ n10_
         (try clear hb)
         (try clear hb2)
         (try clear hk)
         (try clear hi)
         (try clear ho0)
         refine hK.out _ _ ⟨(blk_cell BK258.out 0).trans rfl, (blk_cell BK258.out 1).trans rfl, (blk_cell BK258.out 2).trans rfl, (blk_cell BK239.out 0).trans rfl, (blk_cell BK239.out 1).trans rfl, (blk_cell BK239.out 2).trans rfl, (blk_cell BK239.out 3).trans rfl, (blk_cell BK239.out 4).trans rfl⟩ (fun hHeld => ?_)
         clear hK K
         refine norm_ (a' := ?_) ?_ ?_
         rotate_left
         ·
          show Act.put _ (some 67) _ = _
          simp only [Act.put, List.setIfInBounds_toArray, List.set_cons_zero, List.set_cons_succ, i64_w, i32_w]
          rfl
         refine pure_ (i := 14) (N := some 11) (v := ?_) (a' := ?_) #[true, true, true, true, true, true, true, true, true, true, true, true, true, true, true] rfl rfl (any_of HT_.out (by kernel_rfl)) (fun _ _ _ h => h) (Or.inl ⟨by rfl, ?_⟩) ?_ ?_
         rotate_left
         ·
          intro w'
          go_simp
          with_reducible rfl
         rotate_left
         ·
          simp only [Act.put, List.setIfInBounds_toArray, List.set_cons_zero, List.set_cons_succ, i64_w, i32_w]
          rfl
         refine done_ (done_of HT_.out (by kernel_rfl)) ?_
         try go_wp2
         go_loopg [12] k2 (fun kq v12 w' => ∃ (x11_3 : List Int) (x12_3 : Int), v12 = .int .i64 x12_3 ∧ Aside0 (earshotref13_Frame.l1 kq x11_3 x12_3 a0_0 a0_1 a0_2 a0_3 a0_4 t251 t254 t257 = some r) ∧ Aside0 (kq ≤ k2) ∧ Aside0 (Kd.R (Kd.int .i64) 3 w' w.heap.size (fun k_ => some k_ ≠ ((.slice Ao35 t251.length co35) : Value).ownBlock ∧ some k_ ≠ ((.slice Ao38 t254.length co38) : Value).ownBlock) v269 x11_3) ∧ Aside0 (Kd.R (Kd.int .i64) 3 w' w.heap.size (fun k_ => some k_ ≠ (v269 : Value).ownBlock ∧ some k_ ≠ ((.slice Ao38 t254.length co38) : Value).ownBlock) (.slice Ao35 t251.length co35) t251) ∧ Aside0 (Kd.R (Kd.int .i64) 3 w' w.heap.size (fun k_ => some k_ ≠ (v269 : Value).ownBlock ∧ some k_ ≠ ((.slice Ao35 t251.length co35) : Value).ownBlock) (.slice Ao38 t254.length co38) t254) ∧ Aside0 (w'.heap[gb239]? = some (.cells #[.int .i64 a0_0, .int .i64 a0_1, .int .i64 a0_2, .int .i64 a0_3, .int .i64 a0_4] 39 (0, 0))) ∧ Aside0 (w'.heap[gb258]? = some (.cells #[(.slice Ao35 t251.length co35), (.slice Ao38 t254.length co38), .int .i64 t257] 80 (0, 0))) ∧ Aside0 (Below w.heap.size w w'))
         case atStart => exact ⟨(t268), (0), (by first | rfl | (simp; done) | (simp [*]; done)), H', ⟨Nat.le_refl _⟩, ⟨by (with_reducible repeat (first | apply Kd.R_alloc | apply Kd.R_drewN | apply Kd.R_drew)); exact Kd.R_mono HO270.out (fun _ hk => ⟨hk.1.1.1.1.2, hk.1.1.1.2⟩)⟩, ⟨by (with_reducible repeat (first | apply Kd.R_alloc | apply Kd.R_drewN | apply Kd.R_drew)); exact Kd.R_mono HO253.out (fun _ hk => ⟨hk.2, hk.1.1.1.1.2.2⟩)⟩, ⟨by (with_reducible repeat (first | apply Kd.R_alloc | apply Kd.R_drewN | apply Kd.R_drew)); exact Kd.R_mono HO256.out (fun _ hk => ⟨hk.2, hk.1.1.1.1.2.2⟩)⟩, ⟨by (with_reducible repeat (first | refine blk_drewN ?_ _ | refine blk_drew ?_ | refine blk_alloc ?_ _)); exact BK239.out⟩, ⟨by (with_reducible repeat (first | refine blk_drewN ?_ _ | refine blk_drew ?_ | refine blk_alloc ?_ _)); exact BK258.out⟩, ⟨by repeat (first | (with_reducible first | exact HB.out | apply below_alloc | apply pw_below_drewN | apply below_drew1 | refine below_set ?_ GE239.out | refine below_set ?_ GE258.out) | exact HB.out)⟩⟩
         case round =>
          clear H'
          try clear c1
          try clear c2
          try clear p2
          try clear q2
          try clear hx2
          try clear c3
          try clear c5
          try clear c6
          try clear p6
          try clear c16
          try clear c16b0
          try clear c17
          try clear c18
          try clear c19
          try clear c19b0
          try clear c21
          try clear p24
          try clear q24
          try clear hx24
          try clear c36
          try clear hcz22_0
          try clear hcz22_1
          try clear hcz22_2
          try clear hcz22_3
          try clear hcz22_4
          try clear hcz31_0
          try clear hcz31_1
          try clear hcz31_2
          try clear hcz31_3
          try clear hcz31_4
          try clear hcz37_0
          try clear hcz37_1
          try clear hcz37_2
          try clear hfz22_0
          try clear hfz22_1
          try clear hfz22_2
          try clear hfz22_3
          try clear hfz22_4
          try clear hfz31_0
          try clear hfz31_1
          try clear hfz31_2
          try clear hfz31_3
          try clear hfz31_4
          try clear hfz37_0
          try clear hfz37_1
          try clear hfz37_2
          try clear hx245_0
          try clear hx246_0
          try clear p245
          try clear p246
          try clear q245
          try clear q246
          obtain ⟨x11_3, x12_3, rfl, HA, HK3, HO_11, HO_259000, HO_259001, BK239, BK258, HB⟩ := hrel
          cases gk with
          | zero => exact absurd HA.out (by simp [earshotref13_Frame.l1])
          | succ k3 =>
            have H := HA.out
            clear HA
            simp only [earshotref13_Frame.l1] at H
            by_cases c48 : x12_3 < (x11_3.length : Int)
            ·
             rw [if_pos c48] at H
             have c48b0 : decide (x12_3 < (x11_3.length : Int)) = true := decide_eq_true c48
             clear c48
             by_cases c49 : 0 ≤ x12_3
             ·
              rw [if_pos c49] at H
              have c49b0 : decide (0 ≤ x12_3) = true := decide_eq_true c49
              clear c49
              obtain ⟨y272, hy272⟩ : ∃ y_ : List Int, y_ = (x11_3.set (x12_3 : Int).toNat (wrap64 ((rd x11_3 x12_3) + (wrap64 (512 * t257))))) := ⟨_, rfl⟩
              replace H : (earshotref13_Frame.l1 k3 y272 (wrap64 (x12_3 + 1)) a0_0 a0_1 a0_2 a0_3 a0_4 t251 t254 t257) = some r := by first | (rw [hy272]; with_reducible exact H) | (have H2_ := (Option.bind_some _ _).symm.trans H; rw [hy272]; with_reducible exact H2_) | (have H2_ := (Option.bind_some _ _).symm.trans H; with_reducible exact H2_) | with_reducible exact H | (rw [hy272]; exact H) | exact H
              have Ny272 := Aside0.mk hy272
              clear hy272
              have H' := Aside0.mk H
              clear H
              obtain ⟨Ao51, co51, eo51⟩ := Kd.R_slice HO_11.out
              subst eo51
              try go_wp2
              have n0_ := Aside0.mk (Kd.R_drew HO_11.out)
              have n1_ := Aside0.mk (Kd.R_drew HO_259000.out)
              have n2_ := Aside0.mk (Kd.R_drew HO_259001.out)
              have n3_ := Aside0.mk (blk_drew BK239.out)
              have n4_ := Aside0.mk (blk_drew BK258.out)
              have n5_ := Aside0.mk (below_drew1 HB.out)
              clear HO_11
              clear HO_259000
              clear HO_259001
              clear BK239
              clear BK258
              clear HB
              have HO_11 := n0_
              have HO_259000 := n1_
              have HO_259001 := n2_
              have BK239 := n3_
              have BK258 := n4_
              have HB := n5_
              clear n0_ n1_ n2_ n3_ n4_ n5_
              have p271 : 0 ≤ (x12_3 : Int) := of_decide_eq_true (by first | (with_reducible assumption) | assumption)
              have q271 : x12_3 < (x11_3.length : Int) := of_decide_eq_true (by first | (with_reducible assumption) | assumption)
              obtain ⟨ad271, e271, hx271_0⟩ := Kd.at_int (Kd.R_reads' HO_11.out).2.2 x12_3 p271 q271
              cases e271
              replace p271 := eq_true p271
              replace q271 := eq_true q271
              have p50 : 0 ≤ (x12_3 : Int) := of_decide_eq_true (by first | (with_reducible assumption) | assumption)
              have q50 : (x12_3 : Int) < ((x11_3.length : Int) : Int) := of_decide_eq_true (by first | (with_reducible assumption) | assumption)
              obtain ⟨go50, co50, eo50, gb50, gl50, cl50, HG50⟩ := Kd.R_form HO_11.out (by omega)
              (first | cases eo50 | (injection eo50 with ea_ en_ ec_; (first | subst ea_ | (injection ea_ with ea_; subst ea_)); subst ec_; clear en_))
              have GB50 := Aside0.mk gb50
              have GG50 := Aside0.mk HG50
              clear gb50 gl50 HG50
              (first | simp only [add_plain] at hx271_0 | skip)
              obtain ⟨hx50_0, hf50_0⟩ := Kd.R_celln 0 HO_11.out (x12_3 : Int) p50 q50
              replace p50 := eq_true p50
              replace q50 := eq_true q50
              have HP53 := Kd.R_putn HO_11.out (x12_3 : Int) (wrap64 ((rd x11_3 x12_3) + (wrap64 (512 * t257))))
              rw [← Ny272.out] at HP53
              have HQ53 := Aside0.mk HP53
              clear HP53
              refine start_ (n := 12) (S := fun w' => w'.cell? ⟨gb258, 0, none⟩ = some (.slice Ao35 t251.length co35) ∧ w'.cell? ⟨gb258, 1, none⟩ = some (.slice Ao38 t254.length co38) ∧ w'.cell? ⟨gb258, 2, none⟩ = some (.int .i64 t257) ∧ w'.cell? ⟨go50, (x12_3).toNat, none⟩ = some (.int .i64 (rd x11_3 x12_3))) (ds := [11]) #[false, false, false, false, false, false, false, false, false, false, false, false] (by kernel_rfl) rfl rfl ⟨(blk_cell BK258.out 0).trans rfl, (blk_cell BK258.out 1).trans rfl, (blk_cell BK258.out 2).trans rfl, hx271_0⟩ (fun hHeld => ?_); refine with_tabW earshotref13_Frame.tab16 earshotref13_Frame.bits16 (fun HT_ HW_ => ?_)
              generalize wr.drew = w52 at HO_11 HO_259000 HO_259001 BK239 BK258 HB GG50 HQ53 hf50_0 hx271_0 hx50_0 hHeld ⊢
              refine pure_ (i := 0) (N := some 74) (v := ?_) (a' := ?_) #[true, false, false, false, false, false, false, false, false, false, false, false] rfl rfl (any_of HT_.out (by kernel_rfl)) (fun _ _ _ h => h) (Or.inl ⟨by rfl, ?_⟩) ?_ ?_
              rotate_left
              ·
               intro w'
               go_simp
               with_reducible rfl
              rotate_left
              ·
               simp only [Act.put, List.setIfInBounds_toArray, List.set_cons_zero, List.set_cons_succ, i64_w, i32_w]
               rfl
              refine pure_ (i := 1) (N := some 75) (v := ?_) (a' := ?_) #[true, true, false, false, false, false, false, false, false, false, false, false] rfl rfl (any_of HT_.out (by kernel_rfl)) (fun _ _ _ h => h) (Or.inl ⟨by rfl, ?_⟩) ?_ ?_
              rotate_left
              ·
               intro w'
               go_simp
               with_reducible rfl
              rotate_left
              ·
               simp only [Act.put, List.setIfInBounds_toArray, List.set_cons_zero, List.set_cons_succ, i64_w, i32_w]
               rfl
              refine pure_ (i := 2) (N := some 76) (v := ?_) (a' := ?_) #[true, true, true, false, false, false, false, false, false, false, false, false] rfl rfl (any_of HT_.out (by kernel_rfl)) (fun _ _ _ h => h) (Or.inl ⟨by rfl, ?_⟩) ?_ ?_
              rotate_left
              ·
               intro w'
               go_simp
               with_reducible rfl
              rotate_left
              ·
               simp only [Act.put, List.setIfInBounds_toArray, List.set_cons_zero, List.set_cons_succ, i64_w, i32_w]
               rfl
              refine pure_ (i := 3) (N := some 77) (v := ?_) (a' := ?_) #[true, true, true, true, false, false, false, false, false, false, false, false] rfl rfl (any_of HT_.out (by kernel_rfl)) (fun _ _ _ h => h) (Or.inl ⟨by rfl, ?_⟩) ?_ ?_
              rotate_left
              ·
               intro w'
               go_simp
               with_reducible rfl
              rotate_left
              ·
               simp only [Act.put, List.setIfInBounds_toArray, List.set_cons_zero, List.set_cons_succ, i64_w, i32_w]
               rfl
              refine pure_ (i := 4) (N := some 78) (v := ?_) (a' := ?_) #[true, true, true, true, true, false, false, false, false, false, false, false] rfl rfl (any_of HT_.out (by kernel_rfl)) (fun _ _ _ h => h) (Or.inl ⟨by rfl, ?_⟩) ?_ ?_
              rotate_left
              ·
               intro w'
               go_simp
               with_reducible rfl
              rotate_left
              ·
               simp only [Act.put, List.setIfInBounds_toArray, List.set_cons_zero, List.set_cons_succ, i64_w, i32_w]
               rfl
              refine pure_ (i := 6) (N := some 80) (v := ?_) (a' := ?_) #[true, true, true, true, true, false, true, false, false, false, false, false] rfl rfl (any_of HT_.out (by kernel_rfl)) (fun _ _ _ h => h) (Or.inl ⟨by rfl, ?_⟩) ?_ ?_
              rotate_left
              ·
               intro w'
               go_simp
               with_reducible rfl
              rotate_left
              ·
               simp only [Act.put, List.setIfInBounds_toArray, List.set_cons_zero, List.set_cons_succ, i64_w, i32_w]
               rfl
              refine take_ (i := 5) (N := some 79) (v := ?_) (a' := ?_) #[true, true, true, true, true, true, true, false, false, false, false, false] rfl rfl (take_ofW HT_.out HW_.out (by kernel_rfl)) (fun _ _ _ h => h) (Or.inl ⟨by rfl, ?_⟩) hHeld ?_ ?_
              rotate_left
              ·
               rintro w' ⟨s0, s1, s2, s3⟩
               go_simp
               with_reducible rfl
              rotate_left
              ·
               simp only [Act.put, List.setIfInBounds_toArray, List.set_cons_zero, List.set_cons_succ, i64_w, i32_w]
               rfl
              refine take_ (i := 7) (N := some 81) (v := ?_) (a' := ?_) #[true, true, true, true, true, true, true, true, false, false, false, false] rfl rfl (take_ofW HT_.out HW_.out (by kernel_rfl)) (fun _ _ _ h => h) (Or.inl ⟨by rfl, ?_⟩) hHeld ?_ ?_
              rotate_left
              ·
               rintro w' ⟨s0, s1, s2, s3⟩
               go_simp
               with_reducible rfl
              rotate_left
              ·
               simp only [Act.put, List.setIfInBounds_toArray, List.set_cons_zero, List.set_cons_succ, i64_w, i32_w]
               rfl
              refine pure_ (i := 8) (N := some 82) (v := ?_) (a' := ?_) #[true, true, true, true, true, true, true, true, true, false, false, false] rfl rfl (any_of HT_.out (by kernel_rfl)) (fun _ _ _ h => h) (Or.inl ⟨by rfl, ?_⟩) ?_ ?_
              rotate_left
              ·
               intro w'
               go_simp
               with_reducible rfl
              rotate_left
              ·
               simp only [Act.put, List.setIfInBounds_toArray, List.set_cons_zero, List.set_cons_succ, i64_w, i32_w]
               rfl
              refine pure_ (i := 9) (N := some 83) (v := ?_) (a' := ?_) #[true, true, true, true, true, true, true, true, true, true, false, false] rfl rfl (any_of HT_.out (by kernel_rfl)) (fun _ _ _ h => h) (Or.inl ⟨by rfl, ?_⟩) ?_ ?_
              rotate_left
              ·
               intro w'
               go_simp
               with_reducible rfl
              rotate_left
              ·
               simp only [Act.put, List.setIfInBounds_toArray, List.set_cons_zero, List.set_cons_succ, i64_w, i32_w]
               rfl
              refine pure_ (i := 10) (N := some 84) (v := ?_) (a' := ?_) #[true, true, true, true, true, true, true, true, true, true, true, false] rfl rfl (any_of HT_.out (by kernel_rfl)) (fun _ _ _ h => h) (Or.inl ⟨by rfl, ?_⟩) ?_ ?_
              rotate_left
              ·
               intro w'
               go_simp
               with_reducible rfl
              rotate_left
              ·
               simp only [Act.put, List.setIfInBounds_toArray, List.set_cons_zero, List.set_cons_succ, i64_w, i32_w]
               rfl
              refine last_ (i := 11) (N := none) #[true, true, true, true, true, true, true, true, true, true, true, true] rfl rfl (one_of HT_.out (by kernel_rfl)) (by decide) (fun K hK => ?_)
              refine skip_ (w1 := ?_) (by rfl) rfl ?_ ?_
              rotate_left
              ·
               go_simp
               rfl
              refine hK.out _ _ ?_
              clear hK K
              refine done_ (done_of HT_.out (by kernel_rfl)) ?_
              try go_wp2
              go_roundg k3
              case measure => have := HJ4.out; have := HK2.out; have := HK3.out; omega
              case rel => exact ⟨(y272), (wrap64 (x12_3 + 1)), (by first | rfl | (simp; done) | (simp [*]; done)), H', ⟨by have := HJ4.out; have := HK2.out; have := HK3.out; omega⟩, ⟨by (with_reducible repeat (first | apply Kd.R_alloc | apply Kd.R_drewN | apply Kd.R_drew)); exact HQ53.out⟩, ⟨by (with_reducible repeat (first | apply Kd.R_alloc | apply Kd.R_drewN | apply Kd.R_drew)); exact Kd.R_mono (Kd.R_far (p := ⟨go50, (x12_3 : Int).toNat, none⟩) (Kd.R_mono HO_259000.out (fun k_ hk => (⟨hk, fun e_ => hk.1 (by rw [e_]; rfl)⟩ : _ ∧ k_ ≠ go50))) (fun _ hk => hk.2) (.int .i64 (wrap64 ((rd x11_3 x12_3) + (wrap64 (512 * t257)))))) (fun _ hk => ⟨hk.1.1, hk.1.2⟩)⟩, ⟨by (with_reducible repeat (first | apply Kd.R_alloc | apply Kd.R_drewN | apply Kd.R_drew)); exact Kd.R_mono (Kd.R_far (p := ⟨go50, (x12_3 : Int).toNat, none⟩) (Kd.R_mono HO_259001.out (fun k_ hk => (⟨hk, fun e_ => hk.1 (by rw [e_]; rfl)⟩ : _ ∧ k_ ≠ go50))) (fun _ hk => hk.2) (.int .i64 (wrap64 ((rd x11_3 x12_3) + (wrap64 (512 * t257)))))) (fun _ hk => ⟨hk.1.1, hk.1.2⟩)⟩, ⟨by (with_reducible repeat (first | refine blk_drewN ?_ _ | refine blk_drew ?_ | refine blk_alloc ?_ _)); refine blk_far ?_ (by have h_ := Kd.R_ne HO_11.out BK239.out (by decide); intro e_; exact h_ (by rw [e_]; rfl)) _; (with_reducible repeat (first | refine blk_drewN ?_ _ | refine blk_drew ?_ | refine blk_alloc ?_ _)); exact BK239.out⟩, ⟨by (with_reducible repeat (first | refine blk_drewN ?_ _ | refine blk_drew ?_ | refine blk_alloc ?_ _)); refine blk_far ?_ (by have h_ := Kd.R_ne HO_11.out BK258.out (by decide); intro e_; exact h_ (by rw [e_]; rfl)) _; (with_reducible repeat (first | refine blk_drewN ?_ _ | refine blk_drew ?_ | refine blk_alloc ?_ _)); exact BK258.out⟩, ⟨by repeat (first | (with_reducible first | exact HB.out | apply below_alloc | apply pw_below_drewN | apply below_drew1 | refine below_set ?_ GB50.out | refine below_set ?_ GE239.out | refine below_set ?_ GE258.out) | exact HB.out)⟩⟩
             ·
              rw [if_neg c49] at H
              exact absurd H (by simp)
            ·
             rw [if_neg c48] at H
             have c48b0 : decide (x12_3 < (x11_3.length : Int)) = false := decide_eq_false c48
             clear c48
             replace H := Option.bind_eq_some_iff.mp H
             obtain ⟨t273, A540, H⟩ := H
             replace H : (some t273) = some r := H
             have A54 := Aside0.mk A540
             clear A540
             obtain rfl := Option.some.inj H
             obtain ⟨Ao55, co55, eo55⟩ := Kd.R_slice HO_11.out
             subst eo55
             have hnb56 := NB239_258.out
             have hnc56 := NB258_239.out
             have hcz57_0 : wr.cell? ⟨gb239, 0, none⟩ = some (.int .i64 a0_0) := (blk_cell BK239.out 0).trans rfl
             have hcz57_1 : wr.cell? ⟨gb239, 1, none⟩ = some (.int .i64 a0_1) := (blk_cell BK239.out 1).trans rfl
             have hcz57_2 : wr.cell? ⟨gb239, 2, none⟩ = some (.int .i64 a0_2) := (blk_cell BK239.out 2).trans rfl
             have hcz57_3 : wr.cell? ⟨gb239, 3, none⟩ = some (.int .i64 a0_3) := (blk_cell BK239.out 3).trans rfl
             have hcz57_4 : wr.cell? ⟨gb239, 4, none⟩ = some (.int .i64 a0_4) := (blk_cell BK239.out 4).trans rfl
             have hfz57_0 := blk_frozen BK239.out 0
             have hfz57_1 := blk_frozen BK239.out 1
             have hfz57_2 := blk_frozen BK239.out 2
             have hfz57_3 := blk_frozen BK239.out 3
             have hfz57_4 := blk_frozen BK239.out 4
             go_wp2_with (first | ((with_reducible refine gate_callee (f := 43) rfl ?_); refine goesL_ (some 88) rfl rfl Tryd.func43 (by kernel_rfl) rfl #[.int .i64 a0_3, .slice Ao55 x11_3.length co55] rfl (by (try simp only [List.map_toArray, List.map_cons, List.map_nil]); first | done | rfl | (simp only [List.length_drop, List.length_take]; rfl)) ?_; (with_reducible refine (earshotref12_Dct.calls k3 a0_3 _ _ x11_3 t273 _ ?side1 ?side2 A54.out).mono ?_); (case side1 => repeat (first | exact (Kd.R_reads' HO_11.out).2.2 | (with_reducible refine Kd.C_alloc ?_ _) | (with_reducible refine Kd.C_drewN ?_ _) | (with_reducible refine Kd.C_drew ?_))); (case side2 => exact (Kd.R_reads' HO_11.out).2.1); rintro e w58 ⟨v274, rfl, ho0, hb⟩; refine ⟨_, rfl, ?_⟩; have n0_ := Aside0.mk (Kd.R_elder' (by (with_reducible repeat (first | apply Kd.R_alloc | apply Kd.R_drewN | apply Kd.R_drew)); (first | exact HO_11.out | exact Kd.R_mono HO_11.out (fun _ _ => trivial) | exact Kd.R_mono HO_11.out (fun _ hk => hk.1))) (Kd.R_base ho0) hb); have n1_ := Aside0.mk (Kd.R_elder' (by (with_reducible repeat (first | apply Kd.R_alloc | apply Kd.R_drewN | apply Kd.R_drew)); (first | exact HO_259000.out | exact Kd.R_mono HO_259000.out (fun _ _ => trivial) | exact Kd.R_mono HO_259000.out (fun _ hk => hk.1))) (Kd.R_base ho0) hb); have n2_ := Aside0.mk (Kd.R_elder' (by (with_reducible repeat (first | apply Kd.R_alloc | apply Kd.R_drewN | apply Kd.R_drew)); (first | exact HO_259001.out | exact Kd.R_mono HO_259001.out (fun _ _ => trivial) | exact Kd.R_mono HO_259001.out (fun _ hk => hk.1))) (Kd.R_base ho0) hb); have n3_ := Aside0.mk (Kd.R_lower (Kd.R_new' (Kd.R_new' (Kd.R_new' ho0 (Kd.R_lt (by (with_reducible repeat (first | apply Kd.R_alloc | apply Kd.R_drewN | apply Kd.R_drew)); (first | exact HO_11.out | exact Kd.R_mono HO_11.out (fun _ _ => trivial) | exact Kd.R_mono HO_11.out (fun _ hk => hk.1))))) (Kd.R_lt (by (with_reducible repeat (first | apply Kd.R_alloc | apply Kd.R_drewN | apply Kd.R_drew)); (first | exact HO_259000.out | exact Kd.R_mono HO_259000.out (fun _ _ => trivial) | exact Kd.R_mono HO_259000.out (fun _ hk => hk.1))))) (Kd.R_lt (by (with_reducible repeat (first | apply Kd.R_alloc | apply Kd.R_drewN | apply Kd.R_drew)); (first | exact HO_259001.out | exact Kd.R_mono HO_259001.out (fun _ _ => trivial) | exact Kd.R_mono HO_259001.out (fun _ hk => hk.1))))) (below_size (by repeat (first | (with_reducible first | exact HB.out | apply below_alloc | apply pw_below_drewN | apply below_drew1 | refine below_set ?_ GE239.out | refine below_set ?_ GE258.out) | exact HB.out)))); have n4_ := Aside0.mk (blk_below (g := gb239) (o := .cells #[.int .i64 a0_0, .int .i64 a0_1, .int .i64 a0_2, .int .i64 a0_3, .int .i64 a0_4] 39 (0, 0)) (by (with_reducible repeat (first | refine blk_drewN ?_ _ | refine blk_drew ?_ | refine blk_alloc ?_ _)); exact BK239.out) hb); have n5_ := Aside0.mk (blk_below (g := gb258) (o := .cells #[.slice Ao35 t251.length co35, .slice Ao38 t254.length co38, .int .i64 t257] 80 (0, 0)) (by (with_reducible repeat (first | refine blk_drewN ?_ _ | refine blk_drew ?_ | refine blk_alloc ?_ _)); exact BK258.out) hb); have n6_ := Aside0.mk (below_step (by repeat (first | (with_reducible first | exact HB.out | apply below_alloc | apply pw_below_drewN | apply below_drew1 | refine below_set ?_ GE239.out | refine below_set ?_ GE258.out) | exact HB.out)) hb); clear HO_11; clear HO_259000; clear HO_259001; clear BK239; clear BK258; clear HB; have HO_11 := n0_; have HO_259000 := n1_; have HO_259001 := n2_; have HO275 := n3_; have BK239 := n4_; have BK258 := n5_; have HB := n6_; clear n0_ n1_ n2_ n3_ n4_ n5_ n6_; (try clear hb); (try clear hb2); (try clear hk); (try clear hi); (try clear ho0)))
             go_ret
             exact ⟨_, by first | rfl | (simp [errW_none, errW_some] <;> rfl) | (simp [*, errW_none, errW_some] <;> rfl), by (with_reducible repeat (first | apply Kd.R_alloc | apply Kd.R_drewN | apply Kd.R_drew)); exact Kd.R_mono HO275.out (fun _ hk => trivial), by repeat (first | (with_reducible first | exact HB.out | apply below_alloc | apply pw_below_drewN | apply below_drew1 | refine below_set ?_ GE239.out | refine below_set ?_ GE258.out) | exact HB.out)⟩
end Go.Proofs.YtmhacdnnnebpdaaDoor.PFrontStream
