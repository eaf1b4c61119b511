-- Written by a program of this work (wip/tools) for this claim; Lean checks it.
import Derived.Test.YtmhacdnnnebpdaaDoorPFrontStreamx11
namespace Go.Proofs.YtmhacdnnnebpdaaDoor.PFrontStream
open Go.RowKit Go.Proofs.YtmhacdnnnebpdaaDoorW.PrintWords Go.Proofs.YtmhacdnnnebpdaaDoorW.PrintLast Go.Proofs.YtmhacdnnnebpdaaDoorW.PrintMore
attribute [local go_sem] max2_int min2_int max_two min_two max_three min_three max_four min_four   -- for this text's walks alone
set_option linter.unusedVariables false
set_option linter.unusedSimpArgs false
def earshotref09_Add.l0 : Nat → List Int → List Int → List Int → Int → Option (List Int)
 | 0, _, _, _, _ => none
 | k + 1, x0, x1, x5, x6 => if x6 < (x0.length : Int) then (if 0 ≤ x6 then (if x6 < (x1.length : Int) then (if x5.length < 17592186044416 then (earshotref09_Add.l0 k x0 x1 (x5 ++ [wrap64 ((rd x0 x6) + (rd x1 x6))]) (wrap64 (x6 + 1))) else (none)) else (none)) else (none)) else (some x5)
def earshotref09_Add.f (k : Nat) (l0 : List Int) (l1 : List Int) : Option (List Int) := if (l0.length : Int) = (l1.length : Int) then (earshotref09_Add.l0 k l0 l1 ([] : List Int) 0) else (some ([] : List Int))
def earshotref09_Add.T7 : Bool × List (List Nat × List Nat) := (true, [([], []), ([], []), ([], []), ([1, 2], [1, 2]), ([3], [3]), ([], []), ([], []), ([5, 6], [5, 6]), ([7], [7]), ([4, 8], [4, 8]), ([9], [9]), ([0, 10], [0, 10]), ([11, 11, 0, 1, 2, 3, 4, 5, 6, 7, 8, 9, 10, 11], [0, 11])])
def earshotref09_Add.B7 : List Nat := [0, 0, 0, 6, 14, 0, 0, 96, 224, 510, 1022, 2047, 4095]
theorem earshotref09_Add.tab7 : rtab .any (opsOf Tryd.f109 7) = earshotref09_Add.T7 := by kernel_rfl
theorem earshotref09_Add.bits7 : waitsOk earshotref09_Add.T7.2 earshotref09_Add.B7 = true := by kernel_rfl
set_option maxHeartbeats 8000000 in
set_option maxRecDepth 100000 in
theorem earshotref09_Add.calls (k : Nat) (A0 : Option Addr) (c0 : Nat) (l0 : List Int) (A1 : Option Addr) (c1 : Nat) (l1 : List Int) (r : List Int) (w : World) (hr0 : Kd.C (Kd.int .i64) w A0 l0.length l0) (hc0 : l0.length ≤ c0) (hr1 : Kd.C (Kd.int .i64) w A1 l1.length l1) (hc1 : l1.length ≤ c1) (h : earshotref09_Add.f k l0 l1 = some r) :
  Calls Tryd.prog 109 #[.slice A0 l0.length c0, .slice A1 l1.length c1] w fun e w' => ∃ v0_ : Value, e = .returned (v0_) ∧ Kd.R (Kd.int .i64) 3 w' w.heap.size (fun _ => True) v0_ r ∧ Below w.heap.size w w' := by
 have HR0 := Aside0.mk hr0
 have HC0 := Aside0.mk hc0
 clear hr0 hc0
 have HR1 := Aside0.mk hr1
 have HC1 := Aside0.mk hc1
 clear hr1 hc1
 have HB := Aside0.mk (Below.refl w.heap.size w)
 have H : (if (l0.length : Int) = (l1.length : Int) then (earshotref09_Add.l0 k l0 l1 ([] : List Int) 0) else (some ([] : List Int))) = some r := h
 clear h
 by_cases c3 : (l0.length : Int) = (l1.length : Int)
 ·
  rw [if_pos c3] at H
  have c3b0 : ((l0.length : Int) == (l1.length : Int)) = true := beq_iff_eq.mpr c3
  have c3b1 : ((l0.length : Int) != (l1.length : Int)) = false := bne_eq_false_iff_eq.mpr c3
  have c3b2 : (l0.length == l1.length) = true := by first | simpa using c3 | (simp at c3 ⊢; omega)
  clear c3
  have H' := Aside0.mk H
  clear H
  go_enter Tryd.func109, Tryd.ntmps109
  go_wp2
  go_loopg [5, 6] k (fun kq v5 v6 w' => ∃ (x5_1 : List Int) (x6_1 : Int), v6 = .int .i64 x6_1 ∧ Aside0 (earshotref09_Add.l0 kq l0 l1 x5_1 x6_1 = some r) ∧ Aside0 (kq ≤ k) ∧ Aside0 (Kd.R (Kd.int .i64) 3 w' w.heap.size (fun _ => True) v5 x5_1) ∧ Aside0 (Below w.heap.size w w'))
  case atStart => exact ⟨(([] : List Int)), (0), (by first | rfl | (simp; done) | (simp [*]; done)), H', ⟨Nat.le_refl _⟩, ⟨by first | exact Kd.R_nil _ _ _ _ _ | exact Kd.N_nil _ _ _ _ _ | exact Kd.V_nil _ _ _ _ _ | exact Kd.Q_nil _ _ _ _ _ | exact Kd.S_nil _ _ _ _ _⟩, ⟨by repeat (first | (with_reducible first | exact HB.out | apply below_alloc | apply pw_below_drewN | apply below_drew1) | exact HB.out)⟩⟩
  case round =>
   clear H'
   try clear c1
   try clear p2
   try clear c3
   try clear c3b0
   try clear c3b1
   try clear c3b2
   obtain ⟨x5_1, x6_1, rfl, HA, HK1, HO_5, HB⟩ := hrel
   cases gk with
   | zero => exact absurd HA.out (by simp [earshotref09_Add.l0])
   | succ k1 =>
     have H := HA.out
     clear HA
     simp only [earshotref09_Add.l0] at H
     by_cases c4 : x6_1 < (l0.length : Int)
     ·
      rw [if_pos c4] at H
      have c4b0 : decide (x6_1 < (l0.length : Int)) = true := decide_eq_true c4
      clear c4
      by_cases c5 : 0 ≤ x6_1
      ·
       rw [if_pos c5] at H
       have c5b0 : decide (0 ≤ x6_1) = true := decide_eq_true c5
       clear c5
       by_cases c6 : x6_1 < (l1.length : Int)
       ·
        rw [if_pos c6] at H
        have c6b0 : decide (x6_1 < (l1.length : Int)) = true := decide_eq_true c6
        clear c6
        by_cases c7 : x5_1.length < 17592186044416
        ·
         rw [if_pos c7] at H
         have LMc7 := Aside0.mk c7
         clear c7
         obtain ⟨y170, hy170⟩ : ∃ y_ : List Int, y_ = (x5_1 ++ [wrap64 ((rd l0 x6_1) + (rd l1 x6_1))]) := ⟨_, rfl⟩
         replace H : (earshotref09_Add.l0 k1 l0 l1 y170 (wrap64 (x6_1 + 1))) = some r := by first | (rw [hy170]; with_reducible exact H) | (have H2_ := (Option.bind_some _ _).symm.trans H; rw [hy170]; with_reducible exact H2_) | (have H2_ := (Option.bind_some _ _).symm.trans H; with_reducible exact H2_) | with_reducible exact H | (rw [hy170]; exact H) | exact H
         have Ny170 := Aside0.mk hy170
         clear hy170
         have H' := Aside0.mk H
         clear H
         try go_wp2
         have n0_ := Aside0.mk (Kd.R_drew HO_5.out)
         have n1_ := Aside0.mk (below_drew1 HB.out)
         clear HO_5
         clear HB
         have HO_5 := n0_
         have HB := n1_
         clear n0_ n1_
         have p168 : 0 ≤ (x6_1 : Int) := of_decide_eq_true (by first | (with_reducible assumption) | assumption)
         have q168 : x6_1 < (l0.length : Int) := of_decide_eq_true (by first | (with_reducible assumption) | assumption)
         obtain ⟨ad168, e168, hx168_0⟩ := Kd.at_int HR0.out x6_1 p168 q168
         have hw168_0 := hx168_0
         cases e168
         replace hx168_0 := (HB.out.cell (World.block_lt_of_cell? w _ hx168_0)).trans hx168_0
         replace p168 := eq_true p168
         replace q168 := eq_true q168
         have p169 : 0 ≤ (x6_1 : Int) := of_decide_eq_true (by first | (with_reducible assumption) | assumption)
         have q169 : x6_1 < (l1.length : Int) := of_decide_eq_true (by first | (with_reducible assumption) | assumption)
         obtain ⟨ad169, e169, hx169_0⟩ := Kd.at_int HR1.out x6_1 p169 q169
         have hw169_0 := hx169_0
         cases e169
         replace hx169_0 := (HB.out.cell (World.block_lt_of_cell? w _ hx169_0)).trans hx169_0
         replace p169 := eq_true p169
         replace q169 := eq_true q169
         refine start_ (n := 13) (S := fun w' => w'.cell? (ad168.add (x6_1).toNat) = some (.int .i64 (rd l0 x6_1)) ∧ w'.cell? (ad169.add (x6_1).toNat) = some (.int .i64 (rd l1 x6_1))) (ds := []) #[false, false, false, false, false, false, false, false, false, false, false, false, false] (by kernel_rfl) rfl rfl ⟨((HB.out.cell (World.block_lt_of_cell? w _ hw168_0)).trans hw168_0), ((HB.out.cell (World.block_lt_of_cell? w _ hw169_0)).trans hw169_0)⟩ (fun hHeld => ?_); refine with_tabW earshotref09_Add.tab7 earshotref09_Add.bits7 (fun HT_ HW_ => ?_)
         generalize wr.drew = w8 at HO_5 HB hx168_0 hx169_0 hHeld ⊢
         refine pure_ (i := 0) (N := some 18) (v := ?_) (a' := ?_) #[true, false, false, false, false, false, false, false, false, false, false, false, false] rfl rfl (any_of HT_.out (by kernel_rfl)) (fun _ _ _ h => h) (Or.inl ⟨by rfl, ?_⟩) ?_ ?_
         rotate_left
         ·
          intro w'
          go_simp
          with_reducible rfl
         rotate_left
         ·
          simp only [Act.put, List.setIfInBounds_toArray, List.set_cons_zero, List.set_cons_succ, i64_w, i32_w]
          rfl
         refine pure_ (i := 1) (N := some 19) (v := ?_) (a' := ?_) #[true, true, false, false, false, false, false, false, false, false, false, false, false] rfl rfl (any_of HT_.out (by kernel_rfl)) (fun _ _ _ h => h) (Or.inl ⟨by rfl, ?_⟩) ?_ ?_
         rotate_left
         ·
          intro w'
          go_simp
          with_reducible rfl
         rotate_left
         ·
          simp only [Act.put, List.setIfInBounds_toArray, List.set_cons_zero, List.set_cons_succ, i64_w, i32_w]
          rfl
         refine pure_ (i := 2) (N := some 20) (v := ?_) (a' := ?_) #[true, true, true, false, false, false, false, false, false, false, false, false, false] rfl rfl (any_of HT_.out (by kernel_rfl)) (fun _ _ _ h => h) (Or.inl ⟨by rfl, ?_⟩) ?_ ?_
         rotate_left
         ·
          intro w'
          go_simp
          with_reducible rfl
         rotate_left
         ·
          simp only [Act.put, List.setIfInBounds_toArray, List.set_cons_zero, List.set_cons_succ, i64_w, i32_w]
          rfl
         refine pure_ (i := 3) (N := some 21) (v := ?_) (a' := ?_) #[true, true, true, true, false, false, false, false, false, false, false, false, false] rfl rfl (any_of HT_.out (by kernel_rfl)) (fun _ _ _ h => h) (Or.inl ⟨by rfl, ?_⟩) ?_ ?_
         rotate_left
         ·
          intro w'
          go_simp
          with_reducible rfl
         rotate_left
         ·
          simp only [Act.put, List.setIfInBounds_toArray, List.set_cons_zero, List.set_cons_succ, i64_w, i32_w]
          rfl
         refine pure_ (i := 5) (N := some 23) (v := ?_) (a' := ?_) #[true, true, true, true, false, true, false, false, false, false, false, false, false] rfl rfl (any_of HT_.out (by kernel_rfl)) (fun _ _ _ h => h) (Or.inl ⟨by rfl, ?_⟩) ?_ ?_
         rotate_left
         ·
          intro w'
          go_simp
          with_reducible rfl
         rotate_left
         ·
          simp only [Act.put, List.setIfInBounds_toArray, List.set_cons_zero, List.set_cons_succ, i64_w, i32_w]
          rfl
         refine pure_ (i := 6) (N := some 24) (v := ?_) (a' := ?_) #[true, true, true, true, false, true, true, false, false, false, false, false, false] rfl rfl (any_of HT_.out (by kernel_rfl)) (fun _ _ _ h => h) (Or.inl ⟨by rfl, ?_⟩) ?_ ?_
         rotate_left
         ·
          intro w'
          go_simp
          with_reducible rfl
         rotate_left
         ·
          simp only [Act.put, List.setIfInBounds_toArray, List.set_cons_zero, List.set_cons_succ, i64_w, i32_w]
          rfl
         refine pure_ (i := 7) (N := some 25) (v := ?_) (a' := ?_) #[true, true, true, true, false, true, true, true, false, false, false, false, false] rfl rfl (any_of HT_.out (by kernel_rfl)) (fun _ _ _ h => h) (Or.inl ⟨by rfl, ?_⟩) ?_ ?_
         rotate_left
         ·
          intro w'
          go_simp
          with_reducible rfl
         rotate_left
         ·
          simp only [Act.put, List.setIfInBounds_toArray, List.set_cons_zero, List.set_cons_succ, i64_w, i32_w]
          rfl
         refine take_ (i := 4) (N := some 22) (v := ?_) (a' := ?_) #[true, true, true, true, true, true, true, true, false, false, false, false, false] rfl rfl (take_ofW HT_.out HW_.out (by kernel_rfl)) (fun _ _ _ h => h) (Or.inl ⟨by rfl, ?_⟩) hHeld ?_ ?_
         rotate_left
         ·
          rintro w' ⟨s0, s1⟩
          go_simp
          with_reducible rfl
         rotate_left
         ·
          simp only [Act.put, List.setIfInBounds_toArray, List.set_cons_zero, List.set_cons_succ, i64_w, i32_w]
          rfl
         refine take_ (i := 8) (N := some 26) (v := ?_) (a' := ?_) #[true, true, true, true, true, true, true, true, true, false, false, false, false] rfl rfl (take_ofW HT_.out HW_.out (by kernel_rfl)) (fun _ _ _ h => h) (Or.inl ⟨by rfl, ?_⟩) hHeld ?_ ?_
         rotate_left
         ·
          rintro w' ⟨s0, s1⟩
          go_simp
          with_reducible rfl
         rotate_left
         ·
          simp only [Act.put, List.setIfInBounds_toArray, List.set_cons_zero, List.set_cons_succ, i64_w, i32_w]
          rfl
         refine pure_ (i := 9) (N := some 27) (v := ?_) (a' := ?_) #[true, true, true, true, true, true, true, true, true, true, false, false, false] rfl rfl (any_of HT_.out (by kernel_rfl)) (fun _ _ _ h => h) (Or.inl ⟨by rfl, ?_⟩) ?_ ?_
         rotate_left
         ·
          intro w'
          go_simp
          with_reducible rfl
         rotate_left
         ·
          simp only [Act.put, List.setIfInBounds_toArray, List.set_cons_zero, List.set_cons_succ, i64_w, i32_w]
          rfl
         refine one_ (i := 10) (N := some 28) #[true, true, true, true, true, true, true, true, true, true, true, false, false] rfl rfl (one_of HT_.out (by kernel_rfl)) (by decide) (fun K hK => ?_)
         refine value_ (w1 := ?_) (v := ?_) (by rfl) rfl ?_ ?_
         rotate_left 2
         ·
          go_simp
          constructor
          · rfl
          · rfl
         refine hK.out _ _ ⟨(World.cell?_alloc_lt _ _ _ (World.block_lt_of_cell? _ _ (((HB.out.cell (World.block_lt_of_cell? w _ hw168_0)).trans hw168_0)))).trans (((HB.out.cell (World.block_lt_of_cell? w _ hw168_0)).trans hw168_0)), (World.cell?_alloc_lt _ _ _ (World.block_lt_of_cell? _ _ (((HB.out.cell (World.block_lt_of_cell? w _ hw169_0)).trans hw169_0)))).trans (((HB.out.cell (World.block_lt_of_cell? w _ hw169_0)).trans hw169_0))⟩ (fun hHeld => ?_)
         clear hK K
         refine norm_ (a' := ?_) ?_ ?_
         rotate_left
         ·
          show Act.put _ (some 28) _ = _
          simp only [Act.put, List.setIfInBounds_toArray, List.set_cons_zero, List.set_cons_succ, i64_w, i32_w]
          rfl
         refine one_ (i := 11) (N := some 29) #[true, true, true, true, true, true, true, true, true, true, true, true, false] rfl rfl (one_of HT_.out (by kernel_rfl)) (by decide) (fun K hK => ?_)
         refine Kd.R_append_step (Kd.int .i64) (w0 := w) w.heap.size (by rfl) (.tmp 18) (.tmp 28) 22 3 (.int .i64 0) 8 rfl Tryd.underlying22 info3 rfl (by decide) (by omega) u5 x5_1 (wrap64 ((rd l0 x6_1) + (rd l1 x6_1))) [.int .i64 (wrap64 ((rd l0 x6_1) + (rd l1 x6_1)))] (fun _ => True) (fun _ => False) rfl rfl ?aP (fun _ hk => hk.elim) ?aF ?aO ?aB ?aS ?aL ?_
         (case aP => exact rfl)
         (case aB => exact (by repeat (first | (with_reducible first | exact HB.out | apply below_alloc | apply pw_below_drewN | apply below_drew1) | exact HB.out)))
         (case aF => exact (fun _ _ => trivial))
         (case aO => exact (by (with_reducible repeat (first | apply Kd.R_alloc | apply Kd.R_drewN | apply Kd.R_drew)); (first | exact HO_5.out | exact Kd.R_mono HO_5.out (fun _ _ => trivial) | exact Kd.R_mono HO_5.out (fun _ hk => hk.1))))
         (case aS => exact (below_size (by repeat (first | (with_reducible first | exact HB.out | apply below_alloc | apply pw_below_drewN | apply below_drew1) | exact HB.out))))
         (case aL => have := LMc7.out; omega)
         intro v171 w9 ho hb hg hat
         rw [← Ny170.out] at ho
         have n0_ := Aside0.mk (hb)
         have n1_ := Aside0.mk (ho)
         clear HB
         clear HO_5
         have HB := n0_
         have HO172 := n1_
         clear n0_ n1_
         clear ho hb hg hat
         refine hK.out _ _ ⟨((HB.out.cell (World.block_lt_of_cell? w _ hw168_0)).trans hw168_0), ((HB.out.cell (World.block_lt_of_cell? w _ hw169_0)).trans hw169_0)⟩ (fun hHeld => ?_)
         clear hK K
         refine norm_ (a' := ?_) ?_ ?_
         rotate_left
         ·
          show Act.put _ (some 29) _ = _
          simp only [Act.put, List.setIfInBounds_toArray, List.set_cons_zero, List.set_cons_succ, i64_w, i32_w]
          rfl
         refine pure_ (i := 12) (N := some 5) (v := ?_) (a' := ?_) #[true, true, true, true, true, true, true, true, true, true, true, true, true] rfl rfl (any_of HT_.out (by kernel_rfl)) (fun _ _ _ h => h) (Or.inl ⟨by rfl, ?_⟩) ?_ ?_
         rotate_left
         ·
          intro w'
          go_simp
          with_reducible rfl
         rotate_left
         ·
          simp only [Act.put, List.setIfInBounds_toArray, List.set_cons_zero, List.set_cons_succ, i64_w, i32_w]
          rfl
         refine done_ (done_of HT_.out (by kernel_rfl)) ?_
         try go_wp2
         go_roundg k1
         case measure => have := HK1.out; omega
         case rel => exact ⟨(y170), (wrap64 (x6_1 + 1)), (by first | rfl | (simp; done) | (simp [*]; done)), H', ⟨by have := HK1.out; omega⟩, ⟨by (with_reducible repeat (first | apply Kd.R_alloc | apply Kd.R_drewN | apply Kd.R_drew)); exact HO172.out⟩, ⟨by repeat (first | (with_reducible first | exact HB.out | apply below_alloc | apply pw_below_drewN | apply below_drew1) | exact HB.out)⟩⟩
        ·
         rw [if_neg c7] at H
         exact absurd H (by simp)
       ·
        rw [if_neg c6] at H
        exact absurd H (by simp)
      ·
       rw [if_neg c5] at H
       exact absurd H (by simp)
     ·
      rw [if_neg c4] at H
      have c4b0 : decide (x6_1 < (l0.length : Int)) = false := decide_eq_false c4
      clear c4
      obtain rfl := Option.some.inj H
      go_wp2
      go_ret
      exact ⟨_, by first | rfl | (simp [errW_none, errW_some] <;> rfl) | (simp [*, errW_none, errW_some] <;> rfl), by (with_reducible repeat (first | apply Kd.R_alloc | apply Kd.R_drewN | apply Kd.R_drew)); exact HO_5.out, by repeat (first | (with_reducible first | exact HB.out | apply below_alloc | apply pw_below_drewN | apply below_drew1) | exact HB.out)⟩
 ·
  rw [if_neg c3] at H
  have c3b0 : ((l0.length : Int) == (l1.length : Int)) = false := beq_eq_false_iff_ne.mpr c3
  have c3b1 : ((l0.length : Int) != (l1.length : Int)) = true := bne_iff_ne.mpr c3
  have c3b2 : (l0.length == l1.length) = false := by first | simpa using c3 | (simp at c3 ⊢; omega)
  obtain rfl := Option.some.inj H
  go_enter Tryd.func109, Tryd.ntmps109
  go_wp2
  go_ret
  exact ⟨_, by first | rfl | (simp [errW_none, errW_some] <;> rfl) | (simp [*, errW_none, errW_some] <;> rfl), by first | exact Kd.R_nil _ _ _ _ _ | exact Kd.N_nil _ _ _ _ _ | exact Kd.V_nil _ _ _ _ _ | exact Kd.Q_nil _ _ _ _ _ | exact Kd.S_nil _ _ _ _ _, by repeat (first | (with_reducible first | exact HB.out | apply below_alloc | apply pw_below_drewN | apply below_drew1) | exact HB.out)⟩
def earshotref09_Turn.l0 : Nat → List Int → Int → Int → List Int → Int → Option (List Int)
 | 0, _, _, _, _, _ => none
 | k + 1, x0, x1, x5, x6, x7 => if x7 < x5 then ((earshotref02_Rest.f x1 (wrap64 (2 * x5))).bind fun t176 => (if (wrap64 (2 * x5)) = 0 then (none) else (if (Int.tmod (wrap64 (x7 + t176)) (wrap64 (2 * x5))) < x5 then (if 0 ≤ x7 then (if x7 < (x0.length : Int) then (if 0 ≤ (Int.tmod (wrap64 (x7 + t176)) (wrap64 (2 * x5))) then (if (Int.tmod (wrap64 (x7 + t176)) (wrap64 (2 * x5))) < (x6.length : Int) then (earshotref09_Turn.l0 k x0 x1 x5 (x6.set ((Int.tmod (wrap64 (x7 + t176)) (wrap64 (2 * x5))) : Int).toNat (rd x0 x7)) (wrap64 (x7 + 1))) else (none)) else (none)) else (none)) else (none)) else (if 0 ≤ x7 then (if x7 < (x0.length : Int) then (if 0 ≤ (wrap64 ((Int.tmod (wrap64 (x7 + t176)) (wrap64 (2 * x5))) - x5)) then (if (wrap64 ((Int.tmod (wrap64 (x7 + t176)) (wrap64 (2 * x5))) - x5)) < (x6.length : Int) then (earshotref09_Turn.l0 k x0 x1 x5 (x6.set ((wrap64 ((Int.tmod (wrap64 (x7 + t176)) (wrap64 (2 * x5))) - x5)) : Int).toNat (wrap64 (-(rd x0 x7)))) (wrap64 (x7 + 1))) else (none)) else (none)) else (none)) else (none))))) else (some x6)
def earshotref09_Turn.f (k : Nat) (l0 : List Int) (a1 : Int) : Option (List Int) := if 0 ≤ (l0.length : Int) then (if ((l0.length : Int) : Int).toNat ≤ 35184372088832 then (earshotref09_Turn.l0 k l0 a1 (l0.length : Int) (List.replicate ((l0.length : Int) : Int).toNat 0) 0) else (none)) else (none)
set_option maxHeartbeats 8000000 in
set_option maxRecDepth 100000 in
theorem earshotref09_Turn.calls (k : Nat) (A0 : Option Addr) (c0 : Nat) (l0 : List Int) (a1 : Int) (r : List Int) (w : World) (hr0 : Kd.C (Kd.int .i64) w A0 l0.length l0) (hc0 : l0.length ≤ c0) (h : earshotref09_Turn.f k l0 a1 = some r) :
  Calls Tryd.prog 110 #[.slice A0 l0.length c0, .int .i64 a1] w fun e w' => ∃ v0_ : Value, e = .returned (v0_) ∧ Kd.R (Kd.int .i64) 3 w' w.heap.size (fun _ => True) v0_ r ∧ Below w.heap.size w w' := by
 have HR0 := Aside0.mk hr0
 have HC0 := Aside0.mk hc0
 clear hr0 hc0
 have HB := Aside0.mk (Below.refl w.heap.size w)
 have H : (if 0 ≤ (l0.length : Int) then (if ((l0.length : Int) : Int).toNat ≤ 35184372088832 then (earshotref09_Turn.l0 k l0 a1 (l0.length : Int) (List.replicate ((l0.length : Int) : Int).toNat 0) 0) else (none)) else (none)) = some r := h
 clear h
 by_cases c3 : 0 ≤ (l0.length : Int)
 ·
  rw [if_pos c3] at H
  have c3b0 := eq_true c3
  have c3b1 : decide (0 ≤ (l0.length : Int)) = true := decide_eq_true c3
  clear c3
  by_cases c4 : ((l0.length : Int) : Int).toNat ≤ 35184372088832
  ·
   rw [if_pos c4] at H
   have c4b0 := eq_true c4
   have c4b1 : decide (((l0.length : Int) : Int).toNat ≤ 35184372088832) = true := decide_eq_true c4
   clear c4
   obtain ⟨y173, hy173⟩ : ∃ y_ : List Int, y_ = (List.replicate ((l0.length : Int) : Int).toNat 0) := ⟨_, rfl⟩
   replace H : (earshotref09_Turn.l0 k l0 a1 (l0.length : Int) y173 0) = some r := by first | (rw [hy173]; with_reducible exact H) | (have H2_ := (Option.bind_some _ _).symm.trans H; rw [hy173]; with_reducible exact H2_) | (have H2_ := (Option.bind_some _ _).symm.trans H; with_reducible exact H2_) | with_reducible exact H | (rw [hy173]; exact H) | exact H
   have Ny173 := Aside0.mk hy173
   clear hy173
   have H' := Aside0.mk H
   clear H
   go_enter Tryd.func110, Tryd.ntmps110
   go_wp2_with (first | ((with_reducible refine gate_dst (N := 12) rfl ?_); refine Kd.R_make (Kd.int .i64) _ 3 rfl (N := 12) rfl 22 _ _ rfl (l0.length : Int) rfl rfl Tryd.underlying22 (.int .i64 0) 8 info3 rfl (by decide) (by omega) 0 (ok := fun _ => True) (okp := fun _ => True) rfl (fun _ hk => hk) trivial (of_decide_eq_true (by first | (with_reducible assumption) | assumption)) (Nat.le_trans (Nat.mul_le_mul_right _ (of_decide_eq_true (by first | (with_reducible assumption) | assumption) : (l0.length : Int).toNat ≤ 35184372088832)) (by omega)) (Below.refl _ _) (Nat.le_refl _) ?_; intro v174 w5 ho6 hb hg_ hnew_; clear hg_ hnew_; (first | rw [← Ny173.out] at ho6 | (simp only [Int.reduceToNat] at ho6; rw [← Ny173.out] at ho6)); have n0_ := Aside0.mk (Kd.R_lower ho6 (below_size (by repeat (first | (with_reducible first | exact HB.out | apply below_alloc | apply pw_below_drewN | apply below_drew1) | exact HB.out)))); have n1_ := Aside0.mk (below_step (by repeat (first | (with_reducible first | exact HB.out | apply below_alloc | apply pw_below_drewN | apply below_drew1) | exact HB.out)) hb); clear HB; have HO175 := n0_; have HB := n1_; clear n0_ n1_; clear hb ho6))
   go_loopg [7] k (fun kq v7 w' => ∃ (x6_1 : List Int) (x7_1 : Int), v7 = .int .i64 x7_1 ∧ Aside0 (earshotref09_Turn.l0 kq l0 a1 (l0.length : Int) x6_1 x7_1 = some r) ∧ Aside0 (kq ≤ k) ∧ Aside0 (Kd.R (Kd.int .i64) 3 w' w.heap.size (fun _ => True) v174 x6_1) ∧ Aside0 (Below w.heap.size w w'))
   case atStart => exact ⟨(y173), (0), (by first | rfl | (simp; done) | (simp [*]; done)), H', ⟨Nat.le_refl _⟩, ⟨by (with_reducible repeat (first | apply Kd.R_alloc | apply Kd.R_drewN | apply Kd.R_drew)); exact HO175.out⟩, ⟨by repeat (first | (with_reducible first | exact HB.out | apply below_alloc | apply pw_below_drewN | apply below_drew1) | exact HB.out)⟩⟩
   case round =>
    clear H'
    try clear c1
    try clear p2
    try clear c3
    try clear c3b0
    try clear c3b1
    try clear c4
    try clear c4b0
    try clear c4b1
    obtain ⟨x6_1, x7_1, rfl, HA, HK1, HO_6, HB⟩ := hrel
    cases gk with
    | zero => exact absurd HA.out (by simp [earshotref09_Turn.l0])
    | succ k1 =>
      have H := HA.out
      clear HA
      simp only [earshotref09_Turn.l0] at H
      by_cases c7 : x7_1 < (l0.length : Int)
      ·
       rw [if_pos c7] at H
       have c7b0 : decide (x7_1 < (l0.length : Int)) = true := decide_eq_true c7
       clear c7
       replace H := Option.bind_eq_some_iff.mp H
       obtain ⟨t176, A80, H⟩ := H
       replace H : (if (wrap64 (2 * (l0.length : Int))) = 0 then (none) else (if (Int.tmod (wrap64 (x7_1 + t176)) (wrap64 (2 * (l0.length : Int)))) < (l0.length : Int) then (if 0 ≤ x7_1 then (if x7_1 < (l0.length : Int) then (if 0 ≤ (Int.tmod (wrap64 (x7_1 + t176)) (wrap64 (2 * (l0.length : Int)))) then (if (Int.tmod (wrap64 (x7_1 + t176)) (wrap64 (2 * (l0.length : Int)))) < (x6_1.length : Int) then (earshotref09_Turn.l0 k1 l0 a1 (l0.length : Int) (x6_1.set ((Int.tmod (wrap64 (x7_1 + t176)) (wrap64 (2 * (l0.length : Int)))) : Int).toNat (rd l0 x7_1)) (wrap64 (x7_1 + 1))) else (none)) else (none)) else (none)) else (none)) else (if 0 ≤ x7_1 then (if x7_1 < (l0.length : Int) then (if 0 ≤ (wrap64 ((Int.tmod (wrap64 (x7_1 + t176)) (wrap64 (2 * (l0.length : Int)))) - (l0.length : Int))) then (if (wrap64 ((Int.tmod (wrap64 (x7_1 + t176)) (wrap64 (2 * (l0.length : Int)))) - (l0.length : Int))) < (x6_1.length : Int) then (earshotref09_Turn.l0 k1 l0 a1 (l0.length : Int) (x6_1.set ((wrap64 ((Int.tmod (wrap64 (x7_1 + t176)) (wrap64 (2 * (l0.length : Int)))) - (l0.length : Int))) : Int).toNat (wrap64 (-(rd l0 x7_1)))) (wrap64 (x7_1 + 1))) else (none)) else (none)) else (none)) else (none)))) = some r := H
       have A8 := Aside0.mk A80
       clear A80
       by_cases c9 : (wrap64 (2 * (l0.length : Int))) = 0
       ·
        rw [if_pos c9] at H
        exact absurd H (by simp)
       ·
        rw [if_neg c9] at H
        have c9b0 : ((wrap64 (2 * (l0.length : Int))) == 0) = false := beq_eq_false_iff_ne.mpr c9
        have c9b1 : ((wrap64 (2 * (l0.length : Int))) != 0) = true := bne_iff_ne.mpr c9
        by_cases c10 : (Int.tmod (wrap64 (x7_1 + t176)) (wrap64 (2 * (l0.length : Int)))) < (l0.length : Int)
        ·
         rw [if_pos c10] at H
         have c10b0 : decide ((Int.tmod (wrap64 (x7_1 + t176)) (wrap64 (2 * (l0.length : Int)))) < (l0.length : Int)) = true := decide_eq_true c10
         clear c10
         by_cases c11 : 0 ≤ x7_1
         ·
          rw [if_pos c11] at H
          have c11b0 : decide (0 ≤ x7_1) = true := decide_eq_true c11
          clear c11
          by_cases c12 : x7_1 < (l0.length : Int)
          ·
           rw [if_pos c12] at H
           have c12b0 : decide (x7_1 < (l0.length : Int)) = true := decide_eq_true c12
           clear c12
           obtain ⟨ji13, hji13⟩ : ∃ j_ : Int, (Int.tmod (wrap64 (x7_1 + t176)) (wrap64 (2 * (l0.length : Int)))) = j_ := ⟨_, rfl⟩
           replace H : (if 0 ≤ (ji13) then (if (ji13) < (x6_1.length : Int) then (earshotref09_Turn.l0 k1 l0 a1 (l0.length : Int) (x6_1.set ((ji13) : Int).toNat (rd l0 x7_1)) (wrap64 (x7_1 + 1))) else (none)) else (none)) = some r := by first | (rw [hji13] at H; exact H) | (simp only [hji13] at H ⊢; exact H)
           (try rw [hji13] at c10b0)
           (try rw [hji13] at A8)
           by_cases c14 : 0 ≤ (ji13)
           ·
            rw [if_pos c14] at H
            have c14b0 : decide (0 ≤ (ji13)) = true := decide_eq_true c14
            clear c14
            by_cases c15 : (ji13) < (x6_1.length : Int)
            ·
             rw [if_pos c15] at H
             have c15b0 : decide ((ji13) < (x6_1.length : Int)) = true := decide_eq_true c15
             clear c15
             obtain ⟨y178, hy178⟩ : ∃ y_ : List Int, y_ = (x6_1.set ((ji13) : Int).toNat (rd l0 x7_1)) := ⟨_, rfl⟩
             replace H : (earshotref09_Turn.l0 k1 l0 a1 (l0.length : Int) y178 (wrap64 (x7_1 + 1))) = some r := by first | (rw [hy178]; with_reducible exact H) | (have H2_ := (Option.bind_some _ _).symm.trans H; rw [hy178]; with_reducible exact H2_) | (have H2_ := (Option.bind_some _ _).symm.trans H; with_reducible exact H2_) | with_reducible exact H | (rw [hy178]; exact H) | exact H
             have Ny178 := Aside0.mk hy178
             clear hy178
             have H' := Aside0.mk H
             clear H
             go_wp2_with (first | ((with_reducible refine gate_callee (f := 107) rfl ?_); refine goesL_ (some 22) rfl rfl Tryd.func107 (by kernel_rfl) rfl #[.int .i64 a1, .int .i64 (wrap64 (2 * (l0.length : Int)))] rfl (by (try simp only [List.map_toArray, List.map_cons, List.map_nil]); first | done | rfl | (simp only [List.length_drop, List.length_take]; rfl)) ?_; (with_reducible refine (earshotref02_Rest.calls a1 (wrap64 (2 * (l0.length : Int))) t176 _ A8.out).mono ?_); rintro e w' ⟨rfl, ⟨nd, rfl⟩⟩; refine ⟨_, rfl, ?_⟩; (try (rw [drewN_self wr]; generalize hq_ : World.drewN wr _ = wr; have n0_ : Aside0 (Kd.R (Kd.int .i64) 3 wr w.heap.size (fun _ => True) v174 x6_1) := ⟨by rw [← hq_]; exact (by (with_reducible repeat (first | apply Kd.R_alloc | apply Kd.R_drewN | apply Kd.R_drew)); (first | exact HO_6.out | exact Kd.R_mono HO_6.out (fun _ _ => trivial) | exact Kd.R_mono HO_6.out (fun _ hk => hk.1)))⟩; have n1_ : Aside0 (Below w.heap.size w wr) := ⟨by rw [← hq_]; exact (by repeat (first | (with_reducible first | exact HB.out | apply below_alloc | apply pw_below_drewN | apply below_drew1) | exact HB.out))⟩; clear HO_6 HB hq_; have HO_6 := n0_; have HB := n1_; clear n0_ n1_)); have p177 : 0 ≤ (x7_1 : Int) := of_decide_eq_true (by first | (with_reducible assumption) | assumption); have q177 : x7_1 < (l0.length : Int) := of_decide_eq_true (by first | (with_reducible assumption) | assumption); obtain ⟨ad177, e177, hx177_0⟩ := Kd.at_int HR0.out x7_1 p177 q177; cases e177; replace hx177_0 := (HB.out.cell (World.block_lt_of_cell? w _ hx177_0)).trans hx177_0; replace p177 := eq_true p177; replace q177 := eq_true q177; have p16 : 0 ≤ ((ji13) : Int) := of_decide_eq_true (by first | (with_reducible assumption) | assumption); have q16 : ((ji13) : Int) < ((x6_1.length : Int) : Int) := of_decide_eq_true (by first | (with_reducible assumption) | assumption); obtain ⟨go16, co16, eo16, gb16, gl16, cl16, HG16⟩ := Kd.R_form HO_6.out (by omega); (first | cases eo16 | (injection eo16 with ea_ en_ ec_; (first | subst ea_ | (injection ea_ with ea_; subst ea_)); subst ec_; clear en_)); have GB16 := Aside0.mk gb16; have GG16 := Aside0.mk HG16; clear gb16 gl16 HG16; obtain ⟨hx16_0, hf16_0⟩ := Kd.R_celln 0 HO_6.out ((ji13) : Int) p16 q16; replace p16 := eq_true p16; replace q16 := eq_true q16; obtain ⟨hy17_, hz17_⟩ := Kd.R_celln 0 HO_6.out ((ji13) : Int) (of_decide_eq_true (by first | (with_reducible assumption) | assumption)) (of_decide_eq_true (by first | (with_reducible assumption) | assumption)); have HP17 := Kd.R_putg HO_6.out ((ji13) : Int) (rd l0 x7_1)) | ((with_reducible refine gate_store (t := 3) (p := 36) rfl ?_); refine store_event (t := 3) (p := 36) (v := ?vo_w18) (w1 := (wr.setCell ⟨go16, ((ji13) : Int).toNat, none⟩ (.int .i64 (rd l0 x7_1)))) ?hg ?ho ?hn ?hr ?_; (case ho => rfl); (case hg => first | rfl | exact wanted_on rfl rfl rfl (by first | assumption | rfl | (simp [*]; done))); (case hn => rfl); (case hr => first | (go_simp; done) | (go_simp; rfl)); intro w18 hw; have hg : wr.grownBy w18 (some go16) := (by rw [hw]; exact HP17.2); have hp_ : Kd.R (Kd.int .i64) 3 w18 w.heap.size (fun _ => True) (.slice (some ⟨go16, 0, none⟩) x6_1.length co16) y178 := (by rw [hw, Ny178.out]; exact HP17.1); clear HP17; have n0_ := Aside0.mk (hp_); have n1_ := Aside0.mk ((by rw [hw]; exact below_set (HB.out) GB16.out : Below w.heap.size w w18)); clear HO_6; clear HB; have HO_6 := n0_; have HB := n1_; clear n0_ n1_; clear hg hw hp_))
             go_roundg k1
             case measure => have := HK1.out; omega
             case rel => exact ⟨(y178), (wrap64 (x7_1 + 1)), (by first | rfl | (simp; done) | (simp [*]; done)), H', ⟨by have := HK1.out; omega⟩, ⟨by (with_reducible repeat (first | apply Kd.R_alloc | apply Kd.R_drewN | apply Kd.R_drew)); exact HO_6.out⟩, ⟨by repeat (first | (with_reducible first | exact HB.out | apply below_alloc | apply pw_below_drewN | apply below_drew1) | exact HB.out)⟩⟩
            ·
             rw [if_neg c15] at H
             exact absurd H (by simp)
           ·
            rw [if_neg c14] at H
            exact absurd H (by simp)
          ·
           rw [if_neg c12] at H
           exact absurd H (by simp)
         ·
          rw [if_neg c11] at H
          exact absurd H (by simp)
        ·
         rw [if_neg c10] at H
         have c10b0 : decide ((Int.tmod (wrap64 (x7_1 + t176)) (wrap64 (2 * (l0.length : Int)))) < (l0.length : Int)) = false := decide_eq_false c10
         clear c10
         by_cases c19 : 0 ≤ x7_1
         ·
          rw [if_pos c19] at H
          have c19b0 : decide (0 ≤ x7_1) = true := decide_eq_true c19
          clear c19
          by_cases c20 : x7_1 < (l0.length : Int)
          ·
           rw [if_pos c20] at H
           have c20b0 : decide (x7_1 < (l0.length : Int)) = true := decide_eq_true c20
           clear c20
           obtain ⟨ji21, hji21⟩ : ∃ j_ : Int, (wrap64 ((Int.tmod (wrap64 (x7_1 + t176)) (wrap64 (2 * (l0.length : Int)))) - (l0.length : Int))) = j_ := ⟨_, rfl⟩
           replace H : (if 0 ≤ (ji21) then (if (ji21) < (x6_1.length : Int) then (earshotref09_Turn.l0 k1 l0 a1 (l0.length : Int) (x6_1.set ((ji21) : Int).toNat (wrap64 (-(rd l0 x7_1)))) (wrap64 (x7_1 + 1))) else (none)) else (none)) = some r := by first | (rw [hji21] at H; exact H) | (simp only [hji21] at H ⊢; exact H)
           (try rw [hji21] at A8)
           have hji21w : (IntKind.i64.wrap ((Int.tmod (wrap64 (x7_1 + t176)) (wrap64 (2 * (l0.length : Int)))) - (l0.length : Int))) = ji21 := (i64_w _).trans hji21
           by_cases c22 : 0 ≤ (ji21)
           ·
            rw [if_pos c22] at H
            have c22b0 : decide (0 ≤ (ji21)) = true := decide_eq_true c22
            clear c22
            by_cases c23 : (ji21) < (x6_1.length : Int)
            ·
             rw [if_pos c23] at H
             have c23b0 : decide ((ji21) < (x6_1.length : Int)) = true := decide_eq_true c23
             clear c23
             obtain ⟨y180, hy180⟩ : ∃ y_ : List Int, y_ = (x6_1.set ((ji21) : Int).toNat (wrap64 (-(rd l0 x7_1)))) := ⟨_, rfl⟩
             replace H : (earshotref09_Turn.l0 k1 l0 a1 (l0.length : Int) y180 (wrap64 (x7_1 + 1))) = some r := by first | (rw [hy180]; with_reducible exact H) | (have H2_ := (Option.bind_some _ _).symm.trans H; rw [hy180]; with_reducible exact H2_) | (have H2_ := (Option.bind_some _ _).symm.trans H; with_reducible exact H2_) | with_reducible exact H | (rw [hy180]; exact H) | exact H
             have Ny180 := Aside0.mk hy180
             clear hy180
             have H' := Aside0.mk H
             clear H
             go_wp2_with (first | ((with_reducible refine gate_callee (f := 107) rfl ?_); refine goesL_ (some 22) rfl rfl Tryd.func107 (by kernel_rfl) rfl #[.int .i64 a1, .int .i64 (wrap64 (2 * (l0.length : Int)))] rfl (by (try simp only [List.map_toArray, List.map_cons, List.map_nil]); first | done | rfl | (simp only [List.length_drop, List.length_take]; rfl)) ?_; (with_reducible refine (earshotref02_Rest.calls a1 (wrap64 (2 * (l0.length : Int))) t176 _ A8.out).mono ?_); rintro e w' ⟨rfl, ⟨nd, rfl⟩⟩; refine ⟨_, rfl, ?_⟩; (try (rw [drewN_self wr]; generalize hq_ : World.drewN wr _ = wr; have n0_ : Aside0 (Kd.R (Kd.int .i64) 3 wr w.heap.size (fun _ => True) v174 x6_1) := ⟨by rw [← hq_]; exact (by (with_reducible repeat (first | apply Kd.R_alloc | apply Kd.R_drewN | apply Kd.R_drew)); (first | exact HO_6.out | exact Kd.R_mono HO_6.out (fun _ _ => trivial) | exact Kd.R_mono HO_6.out (fun _ hk => hk.1)))⟩; have n1_ : Aside0 (Below w.heap.size w wr) := ⟨by rw [← hq_]; exact (by repeat (first | (with_reducible first | exact HB.out | apply below_alloc | apply pw_below_drewN | apply below_drew1) | exact HB.out))⟩; clear HO_6 HB hq_; have HO_6 := n0_; have HB := n1_; clear n0_ n1_)); have p179 : 0 ≤ (x7_1 : Int) := of_decide_eq_true (by first | (with_reducible assumption) | assumption); have q179 : x7_1 < (l0.length : Int) := of_decide_eq_true (by first | (with_reducible assumption) | assumption); obtain ⟨ad179, e179, hx179_0⟩ := Kd.at_int HR0.out x7_1 p179 q179; cases e179; replace hx179_0 := (HB.out.cell (World.block_lt_of_cell? w _ hx179_0)).trans hx179_0; replace p179 := eq_true p179; replace q179 := eq_true q179; have p24 : 0 ≤ ((ji21) : Int) := of_decide_eq_true (by first | (with_reducible assumption) | assumption); have q24 : ((ji21) : Int) < ((x6_1.length : Int) : Int) := of_decide_eq_true (by first | (with_reducible assumption) | assumption); obtain ⟨go24, co24, eo24, gb24, gl24, cl24, HG24⟩ := Kd.R_form HO_6.out (by omega); (first | cases eo24 | (injection eo24 with ea_ en_ ec_; (first | subst ea_ | (injection ea_ with ea_; subst ea_)); subst ec_; clear en_)); have GB24 := Aside0.mk gb24; have GG24 := Aside0.mk HG24; clear gb24 gl24 HG24; obtain ⟨hx24_0, hf24_0⟩ := Kd.R_celln 0 HO_6.out ((ji21) : Int) p24 q24; replace p24 := eq_true p24; replace q24 := eq_true q24; obtain ⟨hy25_, hz25_⟩ := Kd.R_celln 0 HO_6.out ((ji21) : Int) (of_decide_eq_true (by first | (with_reducible assumption) | assumption)) (of_decide_eq_true (by first | (with_reducible assumption) | assumption)); have HP25 := Kd.R_putg HO_6.out ((ji21) : Int) (wrap64 (-(rd l0 x7_1)))) | ((with_reducible refine gate_store (t := 3) (p := 46) rfl ?_); refine store_event (t := 3) (p := 46) (v := ?vo_w26) (w1 := (wr.setCell ⟨go24, ((ji21) : Int).toNat, none⟩ (.int .i64 (wrap64 (-(rd l0 x7_1)))))) ?hg ?ho ?hn ?hr ?_; (case ho => rfl); (case hg => first | rfl | exact wanted_on rfl rfl rfl (by first | assumption | rfl | (simp [*]; done))); (case hn => rfl); (case hr => first | (go_simp; done) | (go_simp; rfl)); intro w26 hw; have hg : wr.grownBy w26 (some go24) := (by rw [hw]; exact HP25.2); have hp_ : Kd.R (Kd.int .i64) 3 w26 w.heap.size (fun _ => True) (.slice (some ⟨go24, 0, none⟩) x6_1.length co24) y180 := (by rw [hw, Ny180.out]; exact HP25.1); clear HP25; have n0_ := Aside0.mk (hp_); have n1_ := Aside0.mk ((by rw [hw]; exact below_set (HB.out) GB24.out : Below w.heap.size w w26)); clear HO_6; clear HB; have HO_6 := n0_; have HB := n1_; clear n0_ n1_; clear hg hw hp_))
             go_roundg k1
             case measure => have := HK1.out; omega
             case rel => exact ⟨(y180), (wrap64 (x7_1 + 1)), (by first | rfl | (simp; done) | (simp [*]; done)), H', ⟨by have := HK1.out; omega⟩, ⟨by (with_reducible repeat (first | apply Kd.R_alloc | apply Kd.R_drewN | apply Kd.R_drew)); exact HO_6.out⟩, ⟨by repeat (first | (with_reducible first | exact HB.out | apply below_alloc | apply pw_below_drewN | apply below_drew1) | exact HB.out)⟩⟩
            ·
             rw [if_neg c23] at H
             exact absurd H (by simp)
           ·
            rw [if_neg c22] at H
            exact absurd H (by simp)
          ·
           rw [if_neg c20] at H
           exact absurd H (by simp)
         ·
          rw [if_neg c19] at H
          exact absurd H (by simp)
      ·
       rw [if_neg c7] at H
       have c7b0 : decide (x7_1 < (l0.length : Int)) = false := decide_eq_false c7
       clear c7
       obtain rfl := Option.some.inj H
       go_wp2
       go_ret
       exact ⟨_, by first | rfl | (simp [errW_none, errW_some] <;> rfl) | (simp [*, errW_none, errW_some] <;> rfl), by (with_reducible repeat (first | apply Kd.R_alloc | apply Kd.R_drewN | apply Kd.R_drew)); exact HO_6.out, by repeat (first | (with_reducible first | exact HB.out | apply below_alloc | apply pw_below_drewN | apply below_drew1) | exact HB.out)⟩
  ·
   rw [if_neg c4] at H
   exact absurd H (by simp)
 ·
  rw [if_neg c3] at H
  exact absurd H (by simp)
def psi (H : Nat) (z : Int) : Int := if z % (2 * (H : Int)) = 0 then 1 else if z % (2 * (H : Int)) = (H : Int) then -1 else 0
theorem psi_mod {H : Nat} {x y : Int} (h : x % (2 * (H : Int)) = y % (2 * (H : Int))) : psi H x = psi H y := by unfold psi; rw [h]
theorem psi_half {H : Nat} (hH : 0 < H) (z : Int) : psi H (z + H) = -psi H z := by
 have r0 := Int.emod_nonneg z (show 2 * (H : Int) ≠ 0 by omega)
 have r1 := Int.emod_lt_of_pos z (show 0 < 2 * (H : Int) by omega)
 unfold psi
 rw [add_half H hH z]
 generalize z % (2 * (H : Int)) = r at *
 by_cases h1 : r < H
 ·
  rw [if_pos h1]
  by_cases h2 : r = 0
  · rw [if_neg (by omega), if_pos (by omega), if_pos h2]
  · rw [if_neg (by omega), if_neg (by omega), if_neg h2, if_neg (by omega)]; rfl
 ·
  rw [if_neg h1]
  by_cases h2 : r = H
  · rw [if_pos (by omega), if_neg (by omega), if_pos h2]; rfl
  · rw [if_neg (by omega), if_neg (by omega), if_neg (by omega), if_neg h2]; rfl
def psS (H : Nat) (x : Nat → Int) (p : Nat → Int) (n : Nat) (j : Int) : Int := S n (fun i => x i * psi H (j - p i))
def psRow (H : Nat) (x : Nat → Int) (p : Nat → Int) (n : Nat) : List Int := (List.range H).map fun j : Nat => wrap64 (psS H x p n (j : Int))
theorem psRow_length (H : Nat) (x : Nat → Int) (p : Nat → Int) (n : Nat) : (psRow H x p n).length = H := by simp [psRow]
theorem psRow_getD (H : Nat) (x : Nat → Int) (p : Nat → Int) (n j : Nat) (hj : j < H) : (psRow H x p n).getD j 0 = wrap64 (psS H x p n (j : Int)) := getD_map_range H (fun j : Nat => wrap64 (psS H x p n (j : Int))) j hj
theorem psS_half {H : Nat} (hH : 0 < H) (x : Nat → Int) (p : Nat → Int) (n : Nat) (z : Int) : psS H x p n (z + H) = -psS H x p n z := by
 unfold psS
 rw [← S_neg]
 refine S_congr (fun i _ => ?_)
 rw [show z + (H : Int) - p i = z - p i + H by omega, psi_half hH, Int.mul_neg]
theorem psS_mod {H : Nat} (x : Nat → Int) (p : Nat → Int) (n : Nat) {y z : Int} (h : y % (2 * (H : Int)) = z % (2 * (H : Int))) : psS H x p n y = psS H x p n z := by
 unfold psS
 refine S_congr (fun i _ => ?_)
 congr 1
 exact psi_mod (by rw [Int.sub_emod, h, ← Int.sub_emod])
theorem ext_ps {H : Nat} (hH : 0 < H) (x : Nat → Int) (p : Nat → Int) (n : Nat) (z : Int) : ext (psRow H x p n) z = wrap64 (psS H x p n z) := by
 have r0 := Int.emod_nonneg z (show 2 * (H : Int) ≠ 0 by omega)
 have r1 := Int.emod_lt_of_pos z (show 0 < 2 * (H : Int) by omega)
 have hz : psS H x p n z = psS H x p n (z % (2 * (H : Int))) := psS_mod x p n (by rw [Int.emod_emod_of_dvd _ (Int.dvd_refl _)])
 unfold ext
 rw [psRow_length, hz]
 generalize z % (2 * (H : Int)) = r at *
 by_cases h : r.toNat < H
 · rw [if_pos h, psRow_getD _ _ _ _ _ h, Int.toNat_of_nonneg r0]
 ·
  rw [if_neg h, psRow_getD _ _ _ _ _ (by omega), W_neg_W]
  have e : (((r.toNat - H : Nat)) : Int) + H = r := by omega
  rw [← psS_half hH, e]
theorem turn_ps {H : Nat} (hH : 0 < H) (x : Nat → Int) (p : Nat → Int) (n : Nat) (k : Int) : turnL (psRow H x p n) k = psRow H x (fun i => p i + k) n := by
 refine row_ext (by rw [turnL_length, psRow_length, psRow_length]) (fun j hj => ?_)
 rw [turnL_length, psRow_length] at hj
 rw [turnL_getD _ _ _ (by rw [psRow_length]; exact hj), ext_ps hH, psRow_getD _ _ _ _ _ hj]
 congr 1
 exact S_congr (fun i _ => by show _ = x i * psi H ((j : Int) - (p i + k)); rw [show (j : Int) - k - p i = (j : Int) - (p i + k) by omega])
theorem psRow_congr {H n : Nat} {x y : Nat → Int} {p q : Nat → Int} (h : ∀ i (j : Int), i < n → x i * psi H (j - p i) = y i * psi H (j - q i)) : psRow H x p n = psRow H y q n := by
 unfold psRow
 congr 1
 funext j
 congr 1
 exact S_congr (fun i hi => h i _ hi)
theorem psi_back {H : Nat} (hH : 0 < H) (z : Int) : psi H (z - H) = -psi H z := by
 have := psi_half hH (z - H)
 rw [show z - (H : Int) + H = z by omega] at this
 omega
theorem psi_per {H : Nat} (z : Int) (q : Nat) : psi H (z - ((q * (2 * H) : Nat) : Int)) = psi H z := by
 refine psi_mod ?_
 rw [show z - ((q * (2 * H) : Nat) : Int) = z + 2 * (H : Int) * (-(q : Int)) by rw [Int.natCast_mul, Int.natCast_mul, Int.mul_neg, Int.mul_comm (q : Int)]; rfl, Int.add_mul_emod_self_left]
def xOf (xs : List Int) (fr st : Nat) (i : Nat) : Int := xs.getD (fr + i * st) 0
def pOf (st k : Nat) (i : Nat) : Int := (k : Int) * ((i * st : Nat) : Int)
theorem ps_split (xs : List Int) (H fr st M k : Nat) (hH : 0 < H) (hM : st * M = H) (j : Int) :
  psS H (xOf xs fr st) (pOf st k) (2 * M) j = psS H (xOf xs fr (2 * st)) (pOf (2 * st) k) M j + psS H (xOf xs (fr + st) (2 * st)) (fun i => pOf (2 * st) k i + (k : Int) * (st : Int)) M j ∧
  psS H (xOf xs fr st) (pOf st (k + M)) (2 * M) j = psS H (xOf xs fr (2 * st)) (pOf (2 * st) k) M j - psS H (xOf xs (fr + st) (2 * st)) (fun i => pOf (2 * st) k i + (k : Int) * (st : Int)) M j := by
 have q1 : ∀ i : Nat, 2 * i * st = i * (2 * st) := fun i => by rw [Nat.mul_comm 2 i, Nat.mul_assoc]
 have q2 : ∀ i : Nat, (2 * i + 1) * st = i * (2 * st) + st := fun i => by rw [Nat.add_mul, Nat.one_mul, q1]
 have q3 : ∀ i : Nat, M * (i * (2 * st)) = i * (2 * H) := fun i => by rw [← hM, Nat.mul_left_comm, Nat.mul_left_comm M 2 st, Nat.mul_comm M st]
 have x1 : ∀ i : Nat, xOf xs fr st (2 * i) = xOf xs fr (2 * st) i := fun i => by unfold xOf; rw [q1]
 have x2 : ∀ i : Nat, xOf xs fr st (2 * i + 1) = xOf xs (fr + st) (2 * st) i := fun i => by unfold xOf; rw [q2]; congr 1; omega
 have p1 : ∀ i : Nat, pOf st k (2 * i) = pOf (2 * st) k i := fun i => by unfold pOf; rw [q1]
 have p2 : ∀ i : Nat, pOf st k (2 * i + 1) = pOf (2 * st) k i + (k : Int) * (st : Int) := fun i => by unfold pOf; rw [q2, Int.natCast_add, Int.mul_add]
 have p3 : ∀ i : Nat, pOf st (k + M) (2 * i) = pOf (2 * st) k i + ((i * (2 * H) : Nat) : Int) := fun i => by
  unfold pOf; rw [q1, Int.natCast_add, Int.add_mul, ← Int.natCast_mul M, q3]
 have p4 : ∀ i : Nat, pOf st (k + M) (2 * i + 1) = pOf (2 * st) k i + (k : Int) * (st : Int) + (H : Int) + ((i * (2 * H) : Nat) : Int) := fun i => by
  unfold pOf; rw [q2, Int.natCast_add k M, Int.add_mul, Int.natCast_add, Int.mul_add, Int.mul_add, ← Int.natCast_mul M, ← Int.natCast_mul M, q3, Nat.mul_comm M st, hM]; omega
 constructor
 ·
  unfold psS
  rw [S_evenodd]
  congr 1
  · exact S_congr (fun i _ => by rw [x1, p1])
  · exact S_congr (fun i _ => by rw [x2, p2])
 ·
  unfold psS
  rw [S_evenodd]
  rw [Int.sub_eq_add_neg, ← S_neg]
  congr 1
  · exact S_congr (fun i _ => by rw [x1, p3, show j - (pOf (2 * st) k i + ((i * (2 * H) : Nat) : Int)) = j - pOf (2 * st) k i - ((i * (2 * H) : Nat) : Int) by omega, psi_per])
  ·
   refine S_congr (fun i _ => ?_)
   rw [x2, p4, show j - (pOf (2 * st) k i + (k : Int) * (st : Int) + (H : Int) + ((i * (2 * H) : Nat) : Int)) = j - (pOf (2 * st) k i + (k : Int) * (st : Int)) - (H : Int) - ((i * (2 * H) : Nat) : Int) by omega, psi_per, psi_back hH, Int.mul_neg]
theorem halves_ps (xs : List Int) (hin : In64 xs) (H : Nat) (hH : 0 < H) : ∀ e fr st k, k < 2 ^ e → st * 2 ^ e = 2 * H →
  (halvesL xs H e fr st).getD k [] = psRow H (xOf xs fr st) (pOf st k) (2 ^ e)
 | 0, fr, st, k, hk, hst => by
   obtain rfl : k = 0 := by simpa using hk
   show (List.replicate H (0 : Int)).set 0 (xs.getD fr 0) = _
   refine row_ext (by rw [psRow_length]; simp) (fun j hj => ?_)
   have hj' : j < H := by simpa using hj
   rw [psRow_getD _ _ _ _ _ hj']
   show _ = wrap64 (0 + xOf xs fr st 0 * psi H ((j : Int) - pOf st 0 0))
   have hp : pOf st 0 0 = 0 := by simp [pOf]
   have hx0 : xOf xs fr st 0 = xs.getD fr 0 := by simp [xOf]
   rw [hp, hx0, Int.zero_add, Int.sub_zero]
   by_cases h0 : j = 0
   ·
    subst h0
    rw [List.getD_eq_getElem?_getD, List.getElem?_set_self (by simpa using hH)]
    have : psi H ((0 : Nat) : Int) = 1 := by unfold psi; rw [if_pos (by simp)]
    rw [this, Int.mul_one, hin.getD]; rfl
   ·
    rw [List.getD_eq_getElem?_getD, List.getElem?_set_ne (fun h => h0 h.symm), List.getElem?_replicate, if_pos hj']
    have : psi H (j : Int) = 0 := by
     unfold psi
     rw [Int.emod_eq_of_lt (by omega) (by omega), if_neg (by omega), if_neg (by omega)]
    rw [this, Int.mul_zero]; exact (W_in (a := 0) (by decide) (by decide)).symm
 | e + 1, fr, st, k, hk, hst => by
   have hst2 : 2 * st * 2 ^ e = 2 * H := by rw [← hst, Nat.pow_succ, Nat.mul_comm 2 st, Nat.mul_assoc, Nat.mul_comm 2]
   have hstH : st * 2 ^ e = H := by rw [Nat.mul_assoc] at hst2; omega
   have ih1 := halves_ps xs hin H hH e fr (2 * st)
   have ih2 := halves_ps xs hin H hH e (fr + st) (2 * st)
   have hp2 : 2 ^ (e + 1) = 2 * 2 ^ e := by rw [Nat.pow_succ, Nat.mul_comm]
   rcases Nat.lt_or_ge k (2 ^ e) with h | h
   ·
    rw [halvesL_low _ _ _ _ _ _ h, ih1 k h hst2, ih2 k h hst2, turn_ps hH, hp2]
    refine row_ext (by rw [addL_length (by rw [psRow_length, psRow_length]), psRow_length, psRow_length]) (fun j hj => ?_)
    rw [addL_length (by rw [psRow_length, psRow_length]), psRow_length] at hj
    rw [addL_getD (by rw [psRow_length, psRow_length]) j (by rw [psRow_length]; exact hj), psRow_getD _ _ _ _ _ hj, psRow_getD _ _ _ _ _ hj, psRow_getD _ _ _ _ _ hj, W_W_add, W_add_W, (ps_split xs H fr st (2 ^ e) k hH hstH (j : Int)).1]
   ·
    obtain ⟨m, rfl⟩ : ∃ m, k = m + 2 ^ e := ⟨k - 2 ^ e, by omega⟩
    have hm : m < 2 ^ e := by omega
    rw [halvesL_high _ _ _ _ _ _ hm, ih1 m hm hst2, ih2 m hm hst2, turn_ps hH, hp2]
    refine row_ext (by rw [lessL_length (by rw [psRow_length, psRow_length]), psRow_length, psRow_length]) (fun j hj => ?_)
    rw [lessL_length (by rw [psRow_length, psRow_length]), psRow_length] at hj
    rw [lessL_getD (by rw [psRow_length, psRow_length]) j (by rw [psRow_length]; exact hj), psRow_getD _ _ _ _ _ hj, psRow_getD _ _ _ _ _ hj, psRow_getD _ _ _ _ _ hj, W_W_sub, W_sub_W, (ps_split xs H fr st (2 ^ e) m hH hstH (j : Int)).2]
theorem spins_row (l : List Int) (hin : In64 l) (hm : fftMay l.length = true) (k : Nat) (hk : k < l.length) : (spinsF l).getD k [] = psRow (l.length / 2) (fun i => l.getD i 0) (fun i => (k : Int) * (i : Int)) l.length := by
 have hH : 0 < l.length / 2 ∧ 2 * (l.length / 2) = l.length := by rcases fftMay_cases hm with h | h | h | h | h | h <;> omega
 unfold spinsF
 rw [if_pos hm, halves_ps l hin (l.length / 2) hH.1 (logOf l.length) 0 1 k (by rw [logOf_pow hm]; exact hk) (by rw [logOf_pow hm, hH.2]; omega), logOf_pow hm]
 refine psRow_congr (fun i j _ => ?_)
 unfold xOf pOf
 rw [Nat.mul_one, Nat.zero_add]
theorem ps_unit {H : Nat} (hH : 0 < H) (x : Int) (hx : wrap64 x = x) : (List.replicate H (0 : Int)).set 0 x = psRow H (fun _ => x) (fun _ => 0) 1 := by
 refine row_ext (by rw [psRow_length]; simp) (fun j hj => ?_)
 have hj' : j < H := by simpa using hj
 rw [psRow_getD _ _ _ _ _ hj']
 show _ = wrap64 (0 + x * psi H ((j : Int) - 0))
 rw [Int.zero_add, Int.sub_zero]
 by_cases h0 : j = 0
 ·
  subst h0
  rw [List.getD_eq_getElem?_getD, List.getElem?_set_self (by simpa using hH)]
  have : psi H ((0 : Nat) : Int) = 1 := by unfold psi; rw [if_pos (by simp)]
  rw [this, Int.mul_one, hx]; rfl
 ·
  rw [List.getD_eq_getElem?_getD, List.getElem?_set_ne (fun h => h0 h.symm), List.getElem?_replicate, if_pos hj']
  have : psi H (j : Int) = 0 := by
   unfold psi
   rw [Int.emod_eq_of_lt (by omega) (by omega), if_neg (by omega), if_neg (by omega)]
  rw [this, Int.mul_zero]; exact (W_in (a := 0) (by decide) (by decide)).symm
theorem ps_zero (H : Nat) (x : Nat → Int) (p : Nat → Int) : List.replicate H (0 : Int) = psRow H x p 0 := by
 refine row_ext (by rw [psRow_length]; simp) (fun j hj => ?_)
 have hj' : j < H := by simpa using hj
 rw [psRow_getD _ _ _ _ _ hj', List.getD_eq_getElem?_getD, List.getElem?_replicate, if_pos hj']
 exact (W_in (a := 0) (by decide) (by decide)).symm
theorem ps_step {H : Nat} (hH : 0 < H) (x : Nat → Int) (p : Nat → Int) (t : Nat) (hx : wrap64 (x t) = x t) : addL (psRow H x p t) (turnL ((List.replicate H (0 : Int)).set 0 (x t)) (p t)) = psRow H x p (t + 1) := by
 rw [ps_unit hH (x t) hx, turn_ps hH]
 have e : (psRow H x p t).length = (psRow H (fun _ => x t) (fun i => (fun _ => (0 : Int)) i + p t) 1).length := by rw [psRow_length, psRow_length]
 refine row_ext (by rw [addL_length e, psRow_length, psRow_length]) (fun j hj => ?_)
 rw [addL_length e, psRow_length] at hj
 rw [addL_getD e j (by rw [psRow_length]; exact hj), psRow_getD _ _ _ _ _ hj, psRow_getD _ _ _ _ _ hj, psRow_getD _ _ _ _ _ hj, W_W_add, W_add_W]
 congr 1
 show psS H x p t j + (0 + x t * psi H ((j : Int) - (0 + p t))) = _
 rw [Int.zero_add, Int.zero_add]
 rfl
def spinAt (l : List Int) (k : Int) : List Int := psRow (l.length / 2) (fun i => l.getD i 0) (fun i => k % (l.length : Int) * (i : Int)) l.length
theorem spinAt_length (l : List Int) (k : Int) : (spinAt l k).length = l.length / 2 := psRow_length _ _ _ _
theorem spinAt_row (l : List Int) (hin : In64 l) (hm : fftMay l.length = true) (k : Nat) (hk : k < l.length) : (spinsF l).getD k [] = spinAt l (k : Int) := by
 rw [spins_row l hin hm k hk]
 unfold spinAt
 rw [Int.emod_eq_of_lt (by omega) (by omega)]
def sumF (k : Int) (l : List Int) : List Int := if fftMay l.length = true then spinAt l k else []
theorem refquot_f {x n : Int} (hx : -9223372036854775808 ≤ x ∧ x ≤ 9223372036854775807) (hn : -9223372036854775808 ≤ n ∧ n ≤ 9223372036854775807) (h1 : 1 ≤ n) : earshotref02_Quot.f x n = some (x / n) := by
 have h := prt_some hx hn h1
 unfold round_Parts.f at h
 unfold earshotref02_Quot.f
 rw [if_neg (by omega)] at h
 rw [if_neg (by omega)] at h ⊢
 split at h
 ·
  rename_i hc
  rw [if_pos hc]
  have h := Option.some.inj h
  rw [Prod.mk.injEq] at h
  rw [h.1]
 ·
  rename_i hc
  rw [if_neg hc]
  have h := Option.some.inj h
  rw [Prod.mk.injEq] at h
  rw [h.1]
theorem refrest_f {x n : Int} (hx : -9223372036854775808 ≤ x ∧ x ≤ 9223372036854775807) (hn : -9223372036854775808 ≤ n ∧ n ≤ 9223372036854775807) (h1 : 1 ≤ n) : earshotref02_Rest.f x n = some (x % n) := by
 unfold earshotref02_Rest.f
 rw [refquot_f hx hn h1, Option.bind_some]
 have e := Int.mul_ediv_add_emod x n
 have m0 := Int.emod_nonneg x (show n ≠ 0 by omega)
 have m1 := Int.emod_lt_of_pos x (show 0 < n by omega)
 rw [W_sub_W, Int.mul_comm]
 congr 1
 rw [show x - n * (x / n) = x % n by omega]
 exact W_in (by omega) (by omega)
theorem refturn_go (l : List Int) (k : Int) (k0 : -9223372036854775808 ≤ k) (k1 : k ≤ 9223372036854775807) (hl : l.length ≤ 1000000) (b : Nat) (hb : (b : Int) = k % (2 * (l.length : Int))) (m : Nat) : ∀ (d n : Nat), n + d = l.length →
  earshotref09_Turn.l0 (d + 1 + m) l k (l.length : Int) (turnGo l b n) (n : Int) = some (turnGo l b l.length)
 | 0, n, hn => by
   rw [show 0 + 1 + m = m + 1 by omega, earshotref09_Turn.l0, if_neg (by omega), show n = l.length by omega]
 | d + 1, n, hn => by
   have h0 : 0 < l.length := by omega
   have ih := refturn_go l k k0 k1 hl b hb m d (n + 1) (by omega)
   have hb2 : b < 2 * l.length := by have := Int.emod_lt_of_pos k (show 0 < 2 * (l.length : Int) by omega); omega
   have w1 : wrap64 (2 * (l.length : Int)) = 2 * (l.length : Int) := W_in (by omega) (by omega)
   have w2 : wrap64 ((n : Int) + (b : Int)) = (n : Int) + (b : Int) := W_in (by omega) (by omega)
   have w3 : wrap64 ((n : Int) + 1) = ((n + 1 : Nat) : Int) := by rw [W_in (by omega) (by omega)]; omega
   have hp : Int.tmod ((n : Int) + (b : Int)) (2 * (l.length : Int)) = if n + b ≥ 2 * l.length then ((n + b - 2 * l.length : Nat) : Int) else ((n + b : Nat) : Int) := by
    rw [Int.tmod_eq_emod_of_nonneg (by omega)]
    split
    · exact emod_mk (q := 1) (by omega) (by omega) (by omega)
    · exact emod_mk (q := 0) (by omega) (by omega) (by omega)
   have hr : rd l (n : Int) = l.getD n 0 := by unfold rd; rw [Int.toNat_natCast]
   have hgl : ((turnGo l b n).length : Int) = l.length := by rw [turnGo_length]
   have hg : turnGo l b (n + 1) = (turnGo l b n).set (posOf l.length b n) (valOf l b n) := rfl
   unfold posOf valOf at hg
   rw [show d + 1 + 1 + m = (d + 1 + m) + 1 by omega, earshotref09_Turn.l0, if_pos (by omega), w1, refrest_f ⟨k0, k1⟩ (by omega) (by omega), Option.bind_some, ← hb, w2, hp, if_neg (by omega), hr, w3, hgl]
   by_cases c1 : n + b ≥ 2 * l.length
   ·
    rw [if_pos c1, if_pos c1] at hg
    rw [if_pos c1, if_pos (by omega), if_pos (by omega), if_pos (by omega), if_pos (by omega), if_pos (by omega), Int.toNat_natCast, ← hg]
    exact ih
   ·
    rw [if_neg c1, if_neg c1] at hg
    rw [if_neg c1]
    by_cases c2 : n + b ≥ l.length
    ·
     rw [if_pos c2, if_pos c2] at hg
     have w4 : wrap64 (((n + b : Nat) : Int) - (l.length : Int)) = ((n + b - l.length : Nat) : Int) := by rw [W_in (by omega) (by omega)]; omega
     rw [if_neg (by omega), if_pos (by omega), if_pos (by omega), w4, if_pos (by omega), if_pos (by omega), Int.toNat_natCast, ← hg]
     exact ih
    ·
     rw [if_neg c2, if_neg c2] at hg
     rw [if_pos (by omega), if_pos (by omega), if_pos (by omega), if_pos (by omega), if_pos (by omega), Int.toNat_natCast, ← hg]
     exact ih
theorem refturn_f (l : List Int) (k : Int) (k0 : -9223372036854775808 ≤ k) (k1 : k ≤ 9223372036854775807) (hl : l.length ≤ 1000) : earshotref09_Turn.f 1001 l k = some (turnL l k) := by
 unfold earshotref09_Turn.f
 rw [if_pos (by omega), if_pos (by omega), Int.toNat_natCast]
 rcases Nat.eq_zero_or_pos l.length with h0 | h0
 ·
  have : l = [] := List.eq_nil_of_length_eq_zero h0
  subst this
  rfl
 ·
  have e : ((k % (2 * (l.length : Int))).toNat : Int) = k % (2 * (l.length : Int)) := Int.toNat_of_nonneg (Int.emod_nonneg _ (by omega))
  have h := refturn_go l k k0 k1 (by omega) _ e (1000 - l.length) l.length 0 (by omega)
  rw [show l.length + 1 + (1000 - l.length) = 1001 by omega, turnGo_all l k _ e h0] at h
  exact h
theorem zip_take (f : Int → Int → Int) (a b : List Int) (n : Nat) (h1 : n < a.length) (h2 : n < b.length) : (List.zipWith f a b).take n ++ [f (a.getD n 0) (b.getD n 0)] = (List.zipWith f a b).take (n + 1) := by
 have hl : n < (List.zipWith f a b).length := by rw [List.length_zipWith]; omega
 rw [List.take_succ_eq_append_getElem hl, List.getElem_zipWith, List.getD_eq_getElem?_getD, List.getD_eq_getElem?_getD, List.getElem?_eq_getElem h1, List.getElem?_eq_getElem h2]
 rfl
theorem refadd_go (a b : List Int) (h : a.length = b.length) (hl : a.length ≤ 1000000) (m : Nat) : ∀ (d n : Nat), n + d = a.length →
  earshotref09_Add.l0 (d + 1 + m) a b ((List.zipWith (fun x y => wrap64 (x + y)) a b).take n) (n : Int) = some (List.zipWith (fun x y => wrap64 (x + y)) a b)
 | 0, n, hn => by
   rw [show 0 + 1 + m = m + 1 by omega, earshotref09_Add.l0, if_neg (by omega), List.take_of_length_le (by rw [List.length_zipWith]; omega)]
 | d + 1, n, hn => by
   have ih := refadd_go a b h hl m d (n + 1) (by omega)
   have w3 : wrap64 ((n : Int) + 1) = ((n + 1 : Nat) : Int) := by rw [W_in (by omega) (by omega)]; omega
   rw [show d + 1 + 1 + m = (d + 1 + m) + 1 by omega, earshotref09_Add.l0, if_pos (by omega), if_pos (by omega), if_pos (by omega), if_pos (by rw [List.length_take, List.length_zipWith]; omega), w3]
   unfold rd
   rw [Int.toNat_natCast, zip_take (fun x y => wrap64 (x + y)) a b n (by omega) (by omega)]
   exact ih
theorem refadd_f (a b : List Int) (hl : a.length ≤ 1000) : earshotref09_Add.f 1001 a b = some (addL a b) := by
 unfold earshotref09_Add.f addL
 by_cases h : a.length = b.length
 ·
  rw [if_pos (by omega), if_pos h]
  have := refadd_go a b h (by omega) (1000 - a.length) a.length 0 (by omega)
  rw [show a.length + 1 + (1000 - a.length) = 1001 by omega] at this
  exact this
 · rw [if_neg (by omega), if_neg h]
def earshotref10_Sum.f (a0 : Int) (l1 : List Int) : Option (List Int) := if decide (l1.length ≤ 1000) && l1.all (fun x => decide (-9223372036854775808 ≤ x) && decide (x ≤ 9223372036854775807)) && decide (-9223372036854775808 ≤ a0) && decide (a0 ≤ 9223372036854775807) then some (sumF a0 l1) else none
theorem refmay10_f (n : Nat) (hn : fftMay n = true) : earshotref10_May.f (n : Int) = some true := by
 rcases fftMay_cases hn with rfl | rfl | rfl | rfl | rfl | rfl <;> decide +kernel
theorem rturn_r (A : Option Addr) (h c : Nat) (l : List Int) (k : Int) (W : World) (hl : l.length = h) (hC : (Kd.int .i64).C W A h l) (hc : h ≤ c) (hh : h ≤ 1000) (k0 : -9223372036854775808 ≤ k) (k1 : k ≤ 9223372036854775807) :
  Calls Tryd.prog 110 #[.slice A h c, .int .i64 k] W fun e w' => ∃ v, e = .returned v ∧ Kd.R (Kd.int .i64) 3 w' W.heap.size (fun _ => True) v (turnL l k) ∧ Below W.heap.size W w' := by
 subst hl
 exact earshotref09_Turn.calls 1001 A c l k (turnL l k) W hC hc (refturn_f l k k0 k1 hh)
theorem radd_r (A1 A2 : Option Addr) (h c1 c2 : Nat) (l1 l2 : List Int) (W : World) (hl1 : l1.length = h) (hl2 : l2.length = h) (hC1 : (Kd.int .i64).C W A1 h l1) (hC2 : (Kd.int .i64).C W A2 h l2) (h1 : h ≤ c1) (h2 : h ≤ c2) (hh : h ≤ 1000) :
  Calls Tryd.prog 109 #[.slice A1 h c1, .slice A2 h c2] W fun e w' => ∃ v, e = .returned v ∧ Kd.R (Kd.int .i64) 3 w' W.heap.size (fun _ => True) v (addL l1 l2) ∧ Below W.heap.size W w' := by
 have hh2 : l1.length ≤ 1000 := by omega
 have e1 : l1.length = h := hl1
 have := earshotref09_Add.calls 1001 A1 c1 l1 A2 c2 l2 (addL l1 l2) W (by rw [hl1]; exact hC1) (by omega) (by rw [hl2]; exact hC2) (by omega) (refadd_f l1 l2 hh2)
 rw [hl1, hl2] at this
 exact this
set_option maxHeartbeats 16000000 in
theorem rsum_r (k : Int) (N H c : Nat) (A : Option Addr) (l : List Int) (w : World) (hl : l.length = N) (hC : (Kd.int .i64).C w A N l) (hin : In64 l) (hm : fftMay N = true) (hHN : N / 2 = H) (k0 : -9223372036854775808 ≤ k) (k1 : k ≤ 9223372036854775807) :
  Calls Tryd.prog 88 #[.int .i64 k, .slice A N c] w fun e w' => ∃ v0_ : Value, e = .returned v0_ ∧ Kd.R (Kd.int .i64) 3 w' w.heap.size (fun _ => True) v0_ (spinAt l k) ∧ Below w.heap.size w w' := by
 have hN64 : 2 ≤ N ∧ N ≤ 64 ∧ 1 ≤ H ∧ H ≤ 32 := by rcases fftMay_cases hm with rfl | rfl | rfl | rfl | rfl | rfl <;> omega
 obtain ⟨hN2, hN64, hH1, hH32⟩ := hN64
 have HMY := Aside0.mk (refmay10_f N hm)
 obtain ⟨r, hr⟩ := Int.eq_ofNat_of_zero_le (Int.emod_nonneg k (show (N : Int) ≠ 0 by omega))
 have hrN : r < N := by have := Int.emod_lt_of_pos k (show (0 : Int) < (N : Int) by omega); omega
 have HRT := Aside0.mk (by rw [refrest_f ⟨k0, k1⟩ (by omega) (by omega), hr] : earshotref02_Rest.f k (N : Int) = some (r : Int))
 have HST : Aside0 (∀ t, addL (psRow H (fun i => l.getD i 0) (fun i => (r : Int) * (i : Int)) t) (turnL ((List.replicate H (0 : Int)).set 0 (l.getD t 0)) ((r : Int) * (t : Int))) = psRow H (fun i => l.getD i 0) (fun i => (r : Int) * (i : Int)) (t + 1)) := ⟨fun t => ps_step (by omega) (fun i => l.getD i 0) (fun i => (r : Int) * (i : Int)) t (hin.getD t)⟩
 have HEND : Aside0 (psRow H (fun i => l.getD i 0) (fun i => (r : Int) * (i : Int)) N = spinAt l k) := ⟨by unfold spinAt; rw [hl, hHN, hr]⟩
 have HZ0 : Aside0 (List.replicate H (0 : Int) = psRow H (fun i => l.getD i 0) (fun i => (r : Int) * (i : Int)) 0) := ⟨ps_zero _ _ _⟩
 have HLN : Aside0 (∀ t, (psRow H (fun i => l.getD i 0) (fun i => (r : Int) * (i : Int)) t).length = H) := ⟨fun t => psRow_length _ _ _ _⟩
 generalize hQ : psRow H (fun i => l.getD i 0) (fun i => (r : Int) * (i : Int)) = Q at *
 have HC := Aside0.mk hC
 have q1 : Int.tdiv (N : Int) 2 = (H : Int) := by rw [Int.tdiv_eq_ediv_of_nonneg (by omega)]; omega
 have q2 : (N : Int) / 2 = (H : Int) := by omega
 have hmk := print_make 22 3 .i64 8 Tryd.underlying22 turn_info (by decide) H (by omega)
 clear hl hC hin hm hHN hr k0 k1 hQ
 go_enter Tryd.func88, Tryd.ntmps88
 go_wp2_with (go_at_call 87; (with_reducible refine (earshotref10_May.calls _ _ _ HMY.out).mono ?_); rintro e w1 ⟨rfl, ⟨nd, rfl⟩⟩)
 go_loopw [7, 8] (fun v7 v8 wr => ∃ (t : Nat), t ≤ N ∧ v8 = .int .i64 (t : Int) ∧ Aside0 (∃ A7 c7, v7 = .slice A7 H c7 ∧ H ≤ c7 ∧ Kd.R (Kd.int .i64) 3 wr w.heap.size (fun _ => True) (.slice A7 H c7) (Q t)) ∧ Aside0 (Below w.heap.size w wr)) (fun _ v _ => N - (intOf v).toNat)
 case atStart =>
  refine ⟨0, by omega, rfl, ⟨_, _, rfl, Nat.le_refl _, ?_⟩, ⟨by repeat (first | exact Below.refl _ _ | apply below_alloc | apply pw_below_drewN)⟩⟩
  have h := own_made (w.drewN nd) w.heap.size 3 .i64 H (by simp) (by omega)
  have hR := Kd.R_of_own (enc := Value.int .i64) (h1 := fun _ => rfl) (ok := fun _ => True) (xs := List.replicate H 0) (by rw [List.length_replicate]; exact h) (fun _ _ => trivial)
  rw [← HZ0.out]
  exact hR
 case round =>
  obtain ⟨t, ht, rfl, HS, HB⟩ := hrel
  obtain ⟨A7, c7, rfl, hc7, hR7⟩ := HS.out
  have HR7 := Aside0.mk hR7
  have hC7 := R_C hR7
  clear hR7
  by_cases hlt : t < N
  ·
   have hC1 := Kd.C_below HC.out HB.out
   obtain ⟨ad, rfl, hcs⟩ := sp_ad hC1 (by omega)
   have kx := sp_cell hC1 t hlt
   obtain ⟨x, hx⟩ : ∃ x, l.getD t 0 = x := ⟨_, rfl⟩
   rw [hx] at kx
   obtain ⟨P, hP⟩ : ∃ P, (r : Int) * (t : Int) = P := ⟨_, rfl⟩
   have hst := HST.out t
   rw [hx, hP] at hst
   have hP0 : 0 ≤ P := by rw [← hP]; exact Int.mul_nonneg (by omega) (by omega)
   have hP1 : P ≤ 4096 := by rw [← hP]; exact Int.le_trans (Int.mul_le_mul (show (r : Int) ≤ 64 by omega) (show (t : Int) ≤ 64 by omega) (by omega) (by omega)) (by decide)
   have HSTT := Aside0.mk hst
   have HC7 := Aside0.mk hC7
   have hown := own_made wr w.heap.size 3 .i64 H HB.out.size (by omega)
   have hs := own_store hown ((0 : Nat) : Int) x
   rw [Int.toNat_natCast, alloc_set'] at hs
   obtain ⟨⟨yy, hcz⟩, hfz⟩ := own_free hown 0 (by omega)
   have hR := Kd.R_of_own (enc := Value.int .i64) (h1 := fun _ => rfl) (ok := fun _ => True) (xs := (List.replicate H (0 : Int)).set 0 x) (by rw [List.length_set, List.length_replicate]; exact hs.1) (fun _ _ => trivial)
   have HONE := Aside0.mk (R_C hR)
   have HL1 : Aside0 (((List.replicate H (0 : Int)).set 0 x).length = H) := ⟨by simp⟩
   have hBA := below_alloc (Below.refl wr.heap.size wr) (.cells (madeCells #[.int .i64 0] H) 3)
   have kx2 := pw_cell_below hBA kx
   have hBO := Aside0.mk (below_alloc (Below.refl wr.heap.size wr) (.cells ((madeCells #[.int .i64 0] H).setIfInBounds 0 (.int .i64 x)) 3))
   have HLT : Aside0 ((turnL ((List.replicate H (0 : Int)).set 0 x) P).length = H) := ⟨by rw [turnL_length]; exact HL1.out⟩
   have j0 : (t : Int) < (N : Int) := by omega
   have ST0 : True := trivial
   clear hcs hC1 hx hst hown hs hR hC7 HS hBA
   go_wp2_with (first
    | (go_at_call 107; clear ST0 hcz hfz kx kx2; (with_reducible refine (earshotref02_Rest.calls _ _ _ _ HRT.out).mono ?_); rintro e_ w2 ⟨rfl, ⟨nd2, rfl⟩⟩; have ST1 : True := trivial)
    | (go_at_call 110; clear ST1; (with_reducible refine (rturn_r _ H H _ P _ HL1.out (Kd.C_drewN HONE.out _) (Nat.le_refl _) (by omega) (by omega) (by omega)).mono ?_); rintro e_ w3 ⟨vt, rfl, Rt, Bt⟩; obtain ⟨At, ct, hvt, hct, Ct⟩ := Kd.R_reads Rt; rw [HLT.out] at hvt hct Ct; subst hvt; have CT := Aside0.mk Ct; have hb3 := below_then (pw_below_drewN hBO.out _) (Below.size (pw_below_drewN hBO.out _)) Bt; have C7b := Aside0.mk (Kd.C_below HC7.out hb3); have HB3 := Aside0.mk (below_step HB.out hb3); clear Rt Bt Ct hb3; have ST2 : True := trivial)
    | (go_at_call 109; clear ST2; (with_reducible refine (radd_r A7 At H c7 ct (Q t) _ _ (HLN.out t) HLT.out C7b.out CT.out hc7 hct (by omega)).mono ?_); rintro e_ w4 ⟨va, rfl, Ra, Ba⟩; rw [HSTT.out] at Ra; have RA := Aside0.mk (Kd.R_lower Ra (show w.heap.size ≤ _ from Below.size HB3.out)); obtain ⟨Aa, ca, hva, hca, Ca⟩ := Kd.R_reads Ra; rw [HLN.out] at hva hca Ca; subst hva; have HB4 := Aside0.mk (below_step HB3.out Ba); clear Ra Ba Ca; have ST3 : True := trivial))
   go_roundw
   case rel => exact ⟨t + 1, by omega, by go_num, ⟨_, _, rfl, hca, RA.out⟩, HB4⟩
   case measure => simp [intOf]; omega
  ·
   obtain rfl : N = t := by omega
   clear hC7
   go_wp2
   go_ret
   exact ⟨_, rfl, by rw [← HEND.out]; exact HR7.out, HB.out⟩
theorem rmay_no : ∀ n : Fin 1001, fftMay n.1 = false → earshotref10_May.f ((n.1 : Nat) : Int) = some false := by decide +kernel
theorem rsum_no (k : Int) (N c : Nat) (A : Option Addr) (w : World) (hm : fftMay N = false) (hN : N ≤ 1000) :
  Calls Tryd.prog 88 #[.int .i64 k, .slice A N c] w fun e w' => ∃ v0_ : Value, e = .returned v0_ ∧ Kd.R (Kd.int .i64) 3 w' w.heap.size (fun _ => True) v0_ [] ∧ Below w.heap.size w w' := by
 have HMY := Aside0.mk (rmay_no ⟨N, by omega⟩ hm)
 clear hm
 go_enter Tryd.func88, Tryd.ntmps88
 go_wp2_with (go_at_call 87; (with_reducible refine (earshotref10_May.calls _ _ _ HMY.out).mono ?_); rintro e w1 ⟨rfl, ⟨nd, rfl⟩⟩)
 go_ret
 exact ⟨_, rfl, Kd.R_nil _ _ _ _ _, by repeat (first | exact Below.refl _ _ | apply below_alloc | apply pw_below_drewN)⟩
theorem earshotref10_Sum.calls (a0 : Int) (A1 : Option Addr) (c1 : Nat) (l1 : List Int) (r : List Int) (w : World) (hr1 : Kd.C (Kd.int .i64) w A1 l1.length l1) (hc1 : l1.length ≤ c1) (h : earshotref10_Sum.f a0 l1 = some r) :
  Calls Tryd.prog 88 #[.int .i64 a0, .slice A1 l1.length c1] w fun e w' => ∃ v0_ : Value, e = .returned v0_ ∧ Kd.R (Kd.int .i64) 3 w' w.heap.size (fun _ => True) v0_ r ∧ Below w.heap.size w w' := by
 unfold earshotref10_Sum.f at h
 split at h
 case isFalse => cases h
 rename_i hz
 obtain rfl := Option.some.inj h
 simp only [Bool.and_eq_true, decide_eq_true_eq, List.all_eq_true] at hz
 unfold sumF
 by_cases hm : fftMay l1.length = true
 · rw [if_pos hm]; exact rsum_r a0 _ _ c1 A1 l1 w rfl hr1 (fun x hx => hz.1.1.2 x hx) hm rfl hz.1.2 hz.2
 · rw [if_neg hm]; exact rsum_no a0 _ c1 A1 w (by simpa using hm) hz.1.1.1
end Go.Proofs.YtmhacdnnnebpdaaDoor.PFrontStream
