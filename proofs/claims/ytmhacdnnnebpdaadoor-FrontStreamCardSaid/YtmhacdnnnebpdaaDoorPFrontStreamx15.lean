-- Written by a program of this work (wip/tools) for this claim; Lean checks it.
import Derived.Test.YtmhacdnnnebpdaaDoorPFrontStreamx14
namespace Go.Proofs.YtmhacdnnnebpdaaDoor.PFrontStream
open Go.RowKit Go.Proofs.YtmhacdnnnebpdaaDoorW.PrintWords Go.Proofs.YtmhacdnnnebpdaaDoorW.PrintLast Go.Proofs.YtmhacdnnnebpdaaDoorW.PrintMore
attribute [local go_sem] max2_int min2_int max_two min_two max_three min_three max_four min_four   -- for this text's walks alone
set_option linter.unusedVariables false
set_option linter.unusedSimpArgs false
def earshotref11_near.f (a0 : Int) : Option (Bool) := if a0 ≥ (-1073741824) then (some (decide (a0 ≤ 1073741824))) else (some false)
set_option maxHeartbeats 8000000 in
set_option maxRecDepth 100000 in
theorem earshotref11_near.calls (a0 : Int) (r : Bool) (w : World) (h : earshotref11_near.f a0 = some r) :
  Calls Tryd.prog 113 #[.int .i64 a0] w fun e w' => e = .returned (.bool r) ∧ Drawn0 w w' := by
 have H : (if a0 ≥ (-1073741824) then (some (decide (a0 ≤ 1073741824))) else (some false)) = some r := h
 clear h
 by_cases c2 : a0 ≥ (-1073741824)
 ·
  rw [if_pos c2] at H
  have c2b0 : decide ((-1073741824) ≤ a0) = true := decide_eq_true c2
  clear c2
  obtain rfl := Option.some.inj H
  go_enter Tryd.func113, Tryd.ntmps113
  go_wp2
  go_ret
  exact ⟨by first | rfl | (simp; done) | (simp [*]; done), by repeat (first | exact Drawn0.refl _ | apply Drawn0.step)⟩
 ·
  rw [if_neg c2] at H
  have c2b0 : decide ((-1073741824) ≤ a0) = false := decide_eq_false c2
  clear c2
  obtain rfl := Option.some.inj H
  go_enter Tryd.func113, Tryd.ntmps113
  go_wp2
  go_ret
  exact ⟨by first | rfl | (simp; done) | (simp [*]; done), by repeat (first | exact Drawn0.refl _ | apply Drawn0.step)⟩
mutual
def earshotref11_Weight.j0 : Nat → Int → Int → Int → Int → Bool → Option (Int)
 | 0, _, _, _, _, _ => none
 | k + 1, x0, x1, x2, x3, x9 => (earshotref11_near.f x2).bind fun t224 => (if t224 = true then ((earshotref11_near.f x3).bind fun t225 => (earshotref11_Weight.j1 k x0 x1 x2 x3 x9 t225)) else (earshotref11_Weight.j1 k x0 x1 x2 x3 x9 false))
def earshotref11_Weight.j1 : Nat → Int → Int → Int → Int → Bool → Bool → Option (Int)
 | 0, _, _, _, _, _, _ => none
 | k + 1, x0, x1, x2, x3, x9, x10 => if x9 = true then (earshotref11_Weight.j2 k x0 x1 x2 x3 (!x10)) else (earshotref11_Weight.j2 k x0 x1 x2 x3 true)
def earshotref11_Weight.j2 : Nat → Int → Int → Int → Int → Bool → Option (Int)
 | 0, _, _, _, _, _ => none
 | k + 1, x0, x1, x2, x3, x28 => if x28 = true then (some 0) else (if x1 ≤ x0 then (earshotref11_Weight.j3 k x0 x1 x2 x3 (decide (x0 < x2))) else (earshotref11_Weight.j3 k x0 x1 x2 x3 false))
def earshotref11_Weight.j3 : Nat → Int → Int → Int → Int → Bool → Option (Int)
 | 0, _, _, _, _, _ => none
 | k + 1, x0, x1, x2, x3, x36 => if x36 = true then (if (wrap64 (x2 - x1)) = 0 then (none) else (some (wrap64 (Int.tdiv (wrap64 (256 * (wrap64 (x0 - x1)))) (wrap64 (x2 - x1)))))) else (if x2 ≤ x0 then (if x0 < x3 then (if (wrap64 (x3 - x2)) = 0 then (none) else (some (wrap64 (Int.tdiv (wrap64 (256 * (wrap64 (x3 - x0)))) (wrap64 (x3 - x2)))))) else (some 0)) else (some 0))
end
def earshotref11_Weight.f (k : Nat) (a0 : Int) (a1 : Int) (a2 : Int) (a3 : Int) : Option (Int) := (earshotref11_near.f a0).bind fun t222 => (if t222 = true then ((earshotref11_near.f a1).bind fun t223 => (earshotref11_Weight.j0 k a0 a1 a2 a3 t223)) else (earshotref11_Weight.j0 k a0 a1 a2 a3 false))
set_option maxHeartbeats 8000000 in
set_option maxRecDepth 100000 in
theorem earshotref11_Weight.calls (k : Nat) (a0 : Int) (a1 : Int) (a2 : Int) (a3 : Int) (r : Int) (w : World) (h : earshotref11_Weight.f k a0 a1 a2 a3 = some r) :
  Calls Tryd.prog 92 #[.int .i64 a0, .int .i64 a1, .int .i64 a2, .int .i64 a3] w fun e w' => e = .returned (.int .i64 r) ∧ Drawn0 w w' := by
 have H : ((earshotref11_near.f a0).bind fun t222 => (if t222 = true then ((earshotref11_near.f a1).bind fun t223 => (earshotref11_Weight.j0 k a0 a1 a2 a3 t223)) else (earshotref11_Weight.j0 k a0 a1 a2 a3 false))) = some r := h
 clear h
 have HC5 := Aside0.mk H
 clear H
 go_enter Tryd.func92, Tryd.ntmps92
 go_upto_region 1 with (fail)
 go_cut [9] (fun v9 wc => ∃ (kq : Nat) (x9_4 : Bool), v9 = .bool x9_4 ∧ Aside0 (earshotref11_Weight.j0 kq a0 a1 a2 a3 x9_4 = some r) ∧ Aside0 (kq ≤ k) ∧ Drawn0 w wc)
 case first =>
  have H := HC5.out
  clear HC5
  replace H := Option.bind_eq_some_iff.mp H
  obtain ⟨t222, A60, H⟩ := H
  replace H : (if t222 = true then ((earshotref11_near.f a1).bind fun t223 => (earshotref11_Weight.j0 k a0 a1 a2 a3 t223)) else (earshotref11_Weight.j0 k a0 a1 a2 a3 false)) = some r := H
  have A6 := Aside0.mk A60
  clear A60
  by_cases c7 : t222 = true
  ·
   subst c7
   have H1 : ((earshotref11_near.f a1).bind fun t223 => (earshotref11_Weight.j0 k a0 a1 a2 a3 t223)) = some r := by rw [if_pos rfl] at H; exact H
   clear H
   have H := H1
   clear H1
   replace H := Option.bind_eq_some_iff.mp H
   obtain ⟨t223, A80, H⟩ := H
   replace H : (earshotref11_Weight.j0 k a0 a1 a2 a3 t223) = some r := H
   have A8 := Aside0.mk A80
   clear A80
   have H' := Aside0.mk H
   clear H
   go_wp2_with (first | ((with_reducible refine gate_callee (f := 113) rfl ?_); refine goesL_ (some 12) rfl rfl Tryd.func113 (by kernel_rfl) rfl #[.int .i64 a0] rfl (by (try simp only [List.map_toArray, List.map_cons, List.map_nil]); first | done | rfl | (simp only [List.length_drop, List.length_take]; rfl)) ?_; (with_reducible refine (earshotref11_near.calls a0 true _ A6.out).mono ?_); rintro e w' ⟨rfl, ⟨nd, rfl⟩⟩; refine ⟨_, rfl, ?_⟩) | (go_at_call 113; (with_reducible refine (earshotref11_near.calls a1 t223 _ A8.out).mono ?_); rintro e w' ⟨rfl, ⟨nd, rfl⟩⟩))
   go_meet
   case rel => exact ⟨_, (t223), (by first | rfl | (simp; done) | (simp [*]; done)), H', ⟨by first | omega | exact Nat.le_refl _⟩, by repeat (first | exact Drawn0.refl _ | apply Drawn0.step)⟩
  ·
   replace c7 := Bool.eq_false_iff.mpr c7
   subst c7
   have H1 : (earshotref11_Weight.j0 k a0 a1 a2 a3 false) = some r := by rw [if_neg (show ¬ (false = true) by decide)] at H; exact H
   clear H
   have H := H1
   clear H1
   have H' := Aside0.mk H
   clear H
   go_wp2_with (first | ((with_reducible refine gate_callee (f := 113) rfl ?_); refine goesL_ (some 12) rfl rfl Tryd.func113 (by kernel_rfl) rfl #[.int .i64 a0] rfl (by (try simp only [List.map_toArray, List.map_cons, List.map_nil]); first | done | rfl | (simp only [List.length_drop, List.length_take]; rfl)) ?_; (with_reducible refine (earshotref11_near.calls a0 false _ A6.out).mono ?_); rintro e w' ⟨rfl, ⟨nd, rfl⟩⟩; refine ⟨_, rfl, ?_⟩))
   go_meet
   case rel => exact ⟨_, (false), (by first | rfl | (simp; done) | (simp [*]; done)), H', ⟨by first | omega | exact Nat.le_refl _⟩, by repeat (first | exact Drawn0.refl _ | apply Drawn0.step)⟩
 case rest =>
  clear HC5
  try clear c1
  try clear p2
  try clear c7
  obtain ⟨kq, x9_4, rfl, HA, HJ4, ⟨mc4, rfl⟩⟩ := hcut
  cases kq with
  | zero => exact absurd HA.out (by simp [earshotref11_Weight.j0])
  | succ kj4 =>
    have H := HA.out
    clear HA
    simp only [earshotref11_Weight.j0] at H
    have HC9 := Aside0.mk H
    clear H
    go_upto_region 2 with (fail)
    go_cut [10] (fun v10 wc => ∃ (kq : Nat) (x10_8 : Bool), v10 = .bool x10_8 ∧ Aside0 (earshotref11_Weight.j1 kq a0 a1 a2 a3 x9_4 x10_8 = some r) ∧ Aside0 (kq ≤ kj4) ∧ Drawn0 w wc)
    case first =>
     have H := HC9.out
     clear HC9
     replace H := Option.bind_eq_some_iff.mp H
     obtain ⟨t224, A100, H⟩ := H
     replace H : (if t224 = true then ((earshotref11_near.f a3).bind fun t225 => (earshotref11_Weight.j1 kj4 a0 a1 a2 a3 x9_4 t225)) else (earshotref11_Weight.j1 kj4 a0 a1 a2 a3 x9_4 false)) = some r := H
     have A10 := Aside0.mk A100
     clear A100
     by_cases c11 : t224 = true
     ·
      subst c11
      have H1 : ((earshotref11_near.f a3).bind fun t225 => (earshotref11_Weight.j1 kj4 a0 a1 a2 a3 x9_4 t225)) = some r := by rw [if_pos rfl] at H; exact H
      clear H
      have H := H1
      clear H1
      replace H := Option.bind_eq_some_iff.mp H
      obtain ⟨t225, A120, H⟩ := H
      replace H : (earshotref11_Weight.j1 kj4 a0 a1 a2 a3 x9_4 t225) = some r := H
      have A12 := Aside0.mk A120
      clear A120
      have H' := Aside0.mk H
      clear H
      go_wp2_with (first | ((with_reducible refine gate_callee (f := 113) rfl ?_); refine goesL_ (some 18) rfl rfl Tryd.func113 (by kernel_rfl) rfl #[.int .i64 a2] rfl (by (try simp only [List.map_toArray, List.map_cons, List.map_nil]); first | done | rfl | (simp only [List.length_drop, List.length_take]; rfl)) ?_; (with_reducible refine (earshotref11_near.calls a2 true _ A10.out).mono ?_); rintro e w' ⟨rfl, ⟨nd, rfl⟩⟩; refine ⟨_, rfl, ?_⟩) | (go_at_call 113; (with_reducible refine (earshotref11_near.calls a3 t225 _ A12.out).mono ?_); rintro e w' ⟨rfl, ⟨nd, rfl⟩⟩))
      go_meet
      case rel => exact ⟨_, (t225), (by first | rfl | (simp; done) | (simp [*]; done)), H', ⟨by have := HJ4.out; first | omega | exact Nat.le_refl _⟩, by repeat (first | exact Drawn0.refl _ | apply Drawn0.step)⟩
     ·
      replace c11 := Bool.eq_false_iff.mpr c11
      subst c11
      have H1 : (earshotref11_Weight.j1 kj4 a0 a1 a2 a3 x9_4 false) = some r := by rw [if_neg (show ¬ (false = true) by decide)] at H; exact H
      clear H
      have H := H1
      clear H1
      have H' := Aside0.mk H
      clear H
      go_wp2_with (first | ((with_reducible refine gate_callee (f := 113) rfl ?_); refine goesL_ (some 18) rfl rfl Tryd.func113 (by kernel_rfl) rfl #[.int .i64 a2] rfl (by (try simp only [List.map_toArray, List.map_cons, List.map_nil]); first | done | rfl | (simp only [List.length_drop, List.length_take]; rfl)) ?_; (with_reducible refine (earshotref11_near.calls a2 false _ A10.out).mono ?_); rintro e w' ⟨rfl, ⟨nd, rfl⟩⟩; refine ⟨_, rfl, ?_⟩))
      go_meet
      case rel => exact ⟨_, (false), (by first | rfl | (simp; done) | (simp [*]; done)), H', ⟨by have := HJ4.out; first | omega | exact Nat.le_refl _⟩, by repeat (first | exact Drawn0.refl _ | apply Drawn0.step)⟩
    case rest =>
     clear HC9
     try clear c1
     try clear p2
     try clear c4
     try clear c7
     try clear c9
     try clear c11
     try clear p2
     obtain ⟨kq, x10_8, rfl, HA, HJ8, ⟨mc8, rfl⟩⟩ := hcut
     cases kq with
     | zero => exact absurd HA.out (by simp [earshotref11_Weight.j1])
     | succ kj8 =>
       have H := HA.out
       clear HA
       simp only [earshotref11_Weight.j1] at H
       have HC13 := Aside0.mk H
       clear H
       go_upto_region 3 with (fail)
       go_cut [28] (fun v28 wc => ∃ (kq : Nat) (x28_12 : Bool), v28 = .bool x28_12 ∧ Aside0 (earshotref11_Weight.j2 kq a0 a1 a2 a3 x28_12 = some r) ∧ Aside0 (kq ≤ kj8) ∧ Drawn0 w wc)
       case first =>
        have H := HC13.out
        clear HC13
        by_cases c14 : x9_4 = true
        ·
         subst c14
         have H1 : (earshotref11_Weight.j2 kj8 a0 a1 a2 a3 (!x10_8)) = some r := by rw [if_pos rfl] at H; exact H
         clear H
         have H := H1
         clear H1
         have H' := Aside0.mk H
         clear H
         go_wp2
         go_meet
         case rel => exact ⟨_, (!x10_8), (by first | rfl | (simp; done) | (simp [*]; done)), H', ⟨by have := HJ4.out; have := HJ8.out; first | omega | exact Nat.le_refl _⟩, by repeat (first | exact Drawn0.refl _ | apply Drawn0.step)⟩
        ·
         replace c14 := Bool.eq_false_iff.mpr c14
         subst c14
         have H1 : (earshotref11_Weight.j2 kj8 a0 a1 a2 a3 true) = some r := by rw [if_neg (show ¬ (false = true) by decide)] at H; exact H
         clear H
         have H := H1
         clear H1
         have H' := Aside0.mk H
         clear H
         go_wp2
         go_meet
         case rel => exact ⟨_, (true), (by first | rfl | (simp; done) | (simp [*]; done)), H', ⟨by have := HJ4.out; have := HJ8.out; first | omega | exact Nat.le_refl _⟩, by repeat (first | exact Drawn0.refl _ | apply Drawn0.step)⟩
       case rest =>
        clear HC13
        try clear c1
        try clear p2
        try clear c4
        try clear c7
        try clear c8
        try clear c9
        try clear c11
        try clear c14
        try clear p2
        obtain ⟨kq, x28_12, rfl, HA, HJ12, ⟨mc12, rfl⟩⟩ := hcut
        cases kq with
        | zero => exact absurd HA.out (by simp [earshotref11_Weight.j2])
        | succ kj12 =>
          have H := HA.out
          clear HA
          simp only [earshotref11_Weight.j2] at H
          by_cases c15 : x28_12 = true
          ·
           subst c15
           have H1 : (some 0) = some r := by rw [if_pos rfl] at H; exact H
           clear H
           have H := H1
           clear H1
           obtain rfl := Option.some.inj H
           go_wp2
           go_ret
           exact ⟨by first | rfl | (simp; done) | (simp [*]; done), by repeat (first | exact Drawn0.refl _ | apply Drawn0.step)⟩
          ·
           replace c15 := Bool.eq_false_iff.mpr c15
           subst c15
           have H1 : (if a1 ≤ a0 then (earshotref11_Weight.j3 kj12 a0 a1 a2 a3 (decide (a0 < a2))) else (earshotref11_Weight.j3 kj12 a0 a1 a2 a3 false)) = some r := by rw [if_neg (show ¬ (false = true) by decide)] at H; exact H
           clear H
           have H := H1
           clear H1
           have HC16 := Aside0.mk H
           clear H
           go_upto_region 5 with (fail)
           go_cut [36] (fun v36 wc => ∃ (kq : Nat) (x36_15 : Bool), v36 = .bool x36_15 ∧ Aside0 (earshotref11_Weight.j3 kq a0 a1 a2 a3 x36_15 = some r) ∧ Aside0 (kq ≤ kj12) ∧ Drawn0 w wc)
           case first =>
            have H := HC16.out
            clear HC16
            by_cases c17 : a1 ≤ a0
            ·
             rw [if_pos c17] at H
             have c17b0 : decide (a1 ≤ a0) = true := decide_eq_true c17
             clear c17
             (first | rw [c17b0] | (simp only [i64_w, i32_w]; rw [c17b0]) | skip)
             have H' := Aside0.mk H
             clear H
             go_wp2
             go_meet
             case rel => exact ⟨_, (decide (a0 < a2)), (by first | rfl | (simp; done) | (simp [*]; done)), H', ⟨by have := HJ4.out; have := HJ8.out; have := HJ12.out; first | omega | exact Nat.le_refl _⟩, by repeat (first | exact Drawn0.refl _ | apply Drawn0.step)⟩
            ·
             rw [if_neg c17] at H
             have c17b0 : decide (a1 ≤ a0) = false := decide_eq_false c17
             clear c17
             (first | rw [c17b0] | (simp only [i64_w, i32_w]; rw [c17b0]) | skip)
             have H' := Aside0.mk H
             clear H
             go_wp2
             go_meet
             case rel => exact ⟨_, (false), (by first | rfl | (simp; done) | (simp [*]; done)), H', ⟨by have := HJ4.out; have := HJ8.out; have := HJ12.out; first | omega | exact Nat.le_refl _⟩, by repeat (first | exact Drawn0.refl _ | apply Drawn0.step)⟩
           case rest =>
            clear HC16
            try clear c1
            try clear p2
            try clear c4
            try clear c7
            try clear c8
            try clear c9
            try clear c11
            try clear c12
            try clear c14
            try clear c15
            try clear c17
            try clear c17b0
            try clear p2
            obtain ⟨kq, x36_15, rfl, HA, HJ15, ⟨mc15, rfl⟩⟩ := hcut
            cases kq with
            | zero => exact absurd HA.out (by simp [earshotref11_Weight.j3])
            | succ kj15 =>
              have H := HA.out
              clear HA
              simp only [earshotref11_Weight.j3] at H
              by_cases c18 : x36_15 = true
              ·
               subst c18
               have H1 : (if (wrap64 (a2 - a1)) = 0 then (none) else (some (wrap64 (Int.tdiv (wrap64 (256 * (wrap64 (a0 - a1)))) (wrap64 (a2 - a1)))))) = some r := by rw [if_pos rfl] at H; exact H
               clear H
               have H := H1
               clear H1
               by_cases c19 : (wrap64 (a2 - a1)) = 0
               ·
                rw [if_pos c19] at H
                exact absurd H (by simp)
               ·
                rw [if_neg c19] at H
                have c19b0 : ((wrap64 (a2 - a1)) == 0) = false := beq_eq_false_iff_ne.mpr c19
                have c19b1 : ((wrap64 (a2 - a1)) != 0) = true := bne_iff_ne.mpr c19
                obtain rfl := Option.some.inj H
                go_wp2
                go_ret
                exact ⟨by first | rfl | (simp; done) | (simp [*]; done), by repeat (first | exact Drawn0.refl _ | apply Drawn0.step)⟩
              ·
               replace c18 := Bool.eq_false_iff.mpr c18
               subst c18
               have H1 : (if a2 ≤ a0 then (if a0 < a3 then (if (wrap64 (a3 - a2)) = 0 then (none) else (some (wrap64 (Int.tdiv (wrap64 (256 * (wrap64 (a3 - a0)))) (wrap64 (a3 - a2)))))) else (some 0)) else (some 0)) = some r := by rw [if_neg (show ¬ (false = true) by decide)] at H; exact H
               clear H
               have H := H1
               clear H1
               by_cases c20 : a2 ≤ a0
               ·
                rw [if_pos c20] at H
                have c20b0 : decide (a2 ≤ a0) = true := decide_eq_true c20
                clear c20
                by_cases c21 : a0 < a3
                ·
                 rw [if_pos c21] at H
                 have c21b0 : decide (a0 < a3) = true := decide_eq_true c21
                 clear c21
                 by_cases c22 : (wrap64 (a3 - a2)) = 0
                 ·
                  rw [if_pos c22] at H
                  exact absurd H (by simp)
                 ·
                  rw [if_neg c22] at H
                  have c22b0 : ((wrap64 (a3 - a2)) == 0) = false := beq_eq_false_iff_ne.mpr c22
                  have c22b1 : ((wrap64 (a3 - a2)) != 0) = true := bne_iff_ne.mpr c22
                  obtain rfl := Option.some.inj H
                  go_wp2
                  go_ret
                  exact ⟨by first | rfl | (simp; done) | (simp [*]; done), by repeat (first | exact Drawn0.refl _ | apply Drawn0.step)⟩
                ·
                 rw [if_neg c21] at H
                 have c21b0 : decide (a0 < a3) = false := decide_eq_false c21
                 clear c21
                 obtain rfl := Option.some.inj H
                 go_wp2
                 go_ret
                 exact ⟨by first | rfl | (simp; done) | (simp [*]; done), by repeat (first | exact Drawn0.refl _ | apply Drawn0.step)⟩
               ·
                rw [if_neg c20] at H
                have c20b0 : decide (a2 ≤ a0) = false := decide_eq_false c20
                clear c20
                obtain rfl := Option.some.inj H
                go_wp2
                go_ret
                exact ⟨by first | rfl | (simp; done) | (simp [*]; done), by repeat (first | exact Drawn0.refl _ | apply Drawn0.step)⟩
theorem rnear_f (x : Int) : earshotref11_near.f x = some (nearB x) := by
 unfold earshotref11_near.f nearB
 by_cases h : x ≥ -1073741824
 · rw [if_pos h, decide_eq_true (show -1073741824 ≤ x from h), Bool.true_and]
 · rw [if_neg h, decide_eq_false (show ¬ -1073741824 ≤ x from h), Bool.false_and]
theorem rweight_f (b low mid top : Int) : earshotref11_Weight.f 10 b low mid top = some (weightF b low mid top) := by
 have hj2 : earshotref11_Weight.j2 7 b low mid top true = some 0 := by rw [earshotref11_Weight.j2, if_pos rfl]
 have hw : ∀ c : Bool × Bool × Bool × Bool, (nearB b, nearB low, nearB mid, nearB top) = c → (c = (true, true, true, true) → earshotref11_Weight.j2 7 b low mid top false = some (weightF b low mid top)) := by
  rintro c hc rfl
  have e0 : nearB b = true := congrArg (·.1) hc
  have e1 : nearB low = true := congrArg (·.2.1) hc
  have e2 : nearB mid = true := congrArg (·.2.2.1) hc
  have e3 : nearB top = true := congrArg (·.2.2.2) hc
  have r0 := near_yes e0
  have r1 := near_yes e1
  have r2 := near_yes e2
  have r3 := near_yes e3
  unfold weightF weightW
  rw [if_pos ⟨e0, e1, e2, e3⟩, earshotref11_Weight.j2, if_neg (by decide)]
  clear hj2 e0 e1 e2 e3 hc
  have A : ∀ x d : Int, 0 ≤ x → x < d → d ≤ 2147483648 → wrap64 (Int.tdiv (wrap64 (256 * (wrap64 x))) (wrap64 d)) = 256 * x / d ∧ wrap64 d ≠ 0 := by
   intro x d h0 h1 h2
   have q0 : wrap64 x = x := W_in (by omega) (by omega)
   have q1 : wrap64 d = d := W_in (by omega) (by omega)
   have q2 : wrap64 (256 * x) = 256 * x := W_in (by omega) (by omega)
   have q3 : Int.tdiv (256 * x) d = 256 * x / d := Int.tdiv_eq_ediv_of_nonneg (by omega)
   have q4 : 0 ≤ 256 * x / d := Int.ediv_nonneg (by omega) (by omega)
   have q5 : 256 * x / d ≤ 256 * x := Int.ediv_le_self _ (by omega)
   rw [q0, q1, q2, q3]
   generalize 256 * x / d = z at *
   exact ⟨W_in (by omega) (by omega), by omega⟩
  have B : ∀ x d : Int, 0 ≤ x → x ≤ d → 0 < d → d ≤ 2147483648 → wrap64 (Int.tdiv (wrap64 (256 * (wrap64 x))) (wrap64 d)) = 256 * x / d ∧ wrap64 d ≠ 0 := by
   intro x d h0 h1 h3 h2
   rcases Int.lt_or_eq_of_le h1 with h | h
   · exact A x d h0 h h2
   ·
    subst h
    have q0 : wrap64 x = x := W_in (by omega) (by omega)
    have q2 : wrap64 (256 * x) = 256 * x := W_in (by omega) (by omega)
    have q3 : Int.tdiv (256 * x) x = 256 * x / x := Int.tdiv_eq_ediv_of_nonneg (by omega)
    have q4 : 256 * x / x = 256 := Int.mul_ediv_cancel _ (by omega)
    rw [q0, q2, q3, q4]
    exact ⟨W_in (by decide) (by decide), by omega⟩
  by_cases c1 : low ≤ b ∧ b < mid
  ·
   obtain ⟨h1, h2⟩ := B (b - low) (mid - low) (by omega) (by omega) (by omega) (by omega)
   rw [if_pos c1.1, earshotref11_Weight.j3, if_pos (decide_eq_true c1.2), if_neg h2, h1, if_pos c1]
  ·
   have hj : (if low ≤ b then earshotref11_Weight.j3 6 b low mid top (decide (b < mid)) else earshotref11_Weight.j3 6 b low mid top false) = earshotref11_Weight.j3 6 b low mid top false := by
    by_cases c : low ≤ b
    · rw [if_pos c, decide_eq_false (fun h => c1 ⟨c, h⟩)]
    · rw [if_neg c]
   rw [hj, if_neg c1, earshotref11_Weight.j3, if_neg (by decide)]
   by_cases c2 : mid ≤ b ∧ b < top
   ·
    obtain ⟨h1, h2⟩ := B (top - b) (top - mid) (by omega) (by omega) (by omega) (by omega)
    rw [if_pos c2.1, if_pos c2.2, if_neg h2, h1, if_pos c2]
   ·
    rw [if_neg c2]
    by_cases c : mid ≤ b
    · rw [if_pos c, if_neg (fun h => c2 ⟨c, h⟩)]
    · rw [if_neg c]
 unfold earshotref11_Weight.f
 have hz : ¬ (nearB b = true ∧ nearB low = true ∧ nearB mid = true ∧ nearB top = true) → weightF b low mid top = 0 := fun h => by unfold weightF; rw [if_neg h]
 rw [rnear_f, bsome, rnear_f, bsome]
 have hj0 : ∀ x : Bool, earshotref11_Weight.j0 10 b low mid top x = earshotref11_Weight.j2 7 b low mid top (!(x && nearB mid && nearB top)) := by
  intro x
  rw [earshotref11_Weight.j0, rnear_f, bsome, rnear_f, bsome]
  rw [earshotref11_Weight.j1, earshotref11_Weight.j1]
  cases x <;> cases nearB mid <;> cases nearB top <;> rfl
 rw [hj0, hj0]
 have hw := hw _ rfl
 cases h0 : nearB b <;> cases h1 : nearB low <;> cases h2 : nearB mid <;> cases h3 : nearB top <;> rw [h0, h1, h2, h3] at hz hw <;> first | (rw [hz (by decide)]; exact hj2) | exact hw rfl
theorem rquot_f {x n : Int} (hx : -9223372036854775808 ≤ x ∧ x ≤ 9223372036854775807) (hn : -9223372036854775808 ≤ n ∧ n ≤ 9223372036854775807) (h1 : 1 ≤ n) : earshotref02_Quot.f x n = some (x / n) := by
 have h := prt_some hx hn h1
 unfold round_Parts.f at h
 unfold earshotref02_Quot.f
 rw [if_neg (by omega)] at h
 rw [if_neg (by omega)] at h ⊢
 split at h
 ·
  rename_i hc
  rw [if_pos hc]
  have h := Option.some.inj h
  rw [Prod.mk.injEq] at h
  rw [h.1]
 ·
  rename_i hc
  rw [if_neg hc]
  have h := Option.some.inj h
  rw [Prod.mk.injEq] at h
  rw [h.1]
theorem quiet_e {P : Program} {f : FuncId} {args : Array Value} {W : World} {x : Nat} {v : Value} (h : Calls P f args (W.drewN x) fun e w' => e = .returned v ∧ Drawn0 (W.drewN x) w') :
  Calls P f args (W.drewN x) fun e w'' => e = .returned v ∧ ∃ n, w'' = W.drewN n :=
 h.mono fun _ _ ⟨he, ⟨m, hm⟩⟩ => ⟨he, x + m, by rw [hm, World.drewN_drewN]⟩
theorem rw_c (b low mid top r : Int) (W : World) (hr : weightF b low mid top = r) : Calls Tryd.prog 92 #[.int .i64 b, .int .i64 low, .int .i64 mid, .int .i64 top] W fun e w' => e = .returned (.int .i64 r) ∧ Drawn0 W w' := by
 subst hr
 exact earshotref11_Weight.calls 10 b low mid top _ W (rweight_f _ _ _ _)
def bandF (p e : List Int) (m : Nat) : Int := bandV p (e.getD m 0) (e.getD (m + 1) 0) (e.getD (m + 2) 0)
theorem bands_snoc (p e : List Int) (m : Nat) : (List.range m).map (bandF p e) ++ [bandF p e m] = (List.range (m + 1)).map (bandF p e) := by rw [List.range_succ, List.map_append]; rfl
def earshotref11_Bands.f (l0 l1 : List Int) : Option (List Int) := if decide (l0.length ≤ 1000000) && decide (l1.length ≤ 1000000) then some (bandsL l0 l1) else none
set_option maxHeartbeats 16000000 in
theorem rbands_go (A0 A1 : Option Addr) (n c0 m c1 : Nat) (p e : List Int) (w : World) (hl : p.length = n) (hC : (Kd.int .i64).C w A0 n p) (hn : n ≤ 1000000) (hl1 : e.length = m) (hC1 : (Kd.int .i64).C w A1 m e) (hm : m ≤ 1000000) :
  Calls Tryd.prog 58 #[.slice A0 n c0, .slice A1 m c1] w fun e_ w' => ∃ v0_ : Value, e_ = .returned v0_ ∧ Kd.R (Kd.int .i64) 3 w' w.heap.size (fun _ => True) v0_ (bandsL p e) ∧ Below w.heap.size w w' := by
 have HC0 := Aside0.mk hC
 have HC1 := Aside0.mk hC1
 have HL0 := Aside0.mk hl
 have HL1 := Aside0.mk hl1
 obtain ⟨K, hK⟩ : ∃ K, m - 2 = K := ⟨_, rfl⟩
 have HE : Aside0 (bandsL p e = (List.range K).map (bandF p e)) := ⟨by unfold bandsL; rw [hl1, hK]; rfl⟩
 clear hl hC hl1 hC1
 go_enter Tryd.func58, Tryd.ntmps58
 go_wp2
 go_loopw [5, 6] (fun v5 v6 wr => ∃ (i : Nat), i ≤ K ∧ v6 = .int .i64 (i : Int) ∧ Aside0 (Kd.R (Kd.int .i64) 3 wr w.heap.size (fun _ => True) v5 ((List.range i).map (bandF p e))) ∧ Aside0 (Below w.heap.size w wr)) (fun _ v _ => K - (intOf v).toNat)
 case atStart => exact ⟨0, by omega, rfl, ⟨Kd.R_nil _ _ _ _ _⟩, ⟨Below.refl _ _⟩⟩
 case round =>
  obtain ⟨i, hi, rfl, HO, HB⟩ := hrel
  by_cases hlt : i < K
  ·
   have hC1 := Kd.C_below HC1.out HB.out
   obtain ⟨ad, rfl, hcs1⟩ := b_ad hC1 (by omega)
   obtain ⟨a, ha⟩ : ∃ a, e.getD i 0 = a := ⟨_, rfl⟩
   obtain ⟨b, hb⟩ : ∃ b, e.getD (i + 1) 0 = b := ⟨_, rfl⟩
   obtain ⟨d, hd⟩ : ∃ d, e.getD (i + 2) 0 = d := ⟨_, rfl⟩
   have HV : Aside0 (bandF p e i = bandV p a b d) := ⟨by unfold bandF; rw [ha, hb, hd]⟩
   have hm2 : m = K + 2 := by omega
   have KA := Aside0.mk ha
   have KB := Aside0.mk hb
   have KD := Aside0.mk hd
   clear ha hb hd hC1 hcs1
   subst hm2
   have jm : (i : Int) + 2 < (K : Int) + 2 := by omega
   clear hK
   go_wp2
   go_loopw [7, 8] (fun v7 v8 wr2 => ∃ (j : Nat), j ≤ n ∧ v8 = .int .i64 (j : Int) ∧ v7 = .int .i64 (bandS p a b d j) ∧ Aside0 (Kd.R (Kd.int .i64) 3 wr2 w.heap.size (fun _ => True) u5 ((List.range i).map (bandF p e))) ∧ Aside0 (Below w.heap.size w wr2)) (fun _ v _ => n - (intOf v).toNat)
   case atStart => exact ⟨0, by omega, rfl, rfl, HO, HB⟩
   case round =>
    clear HO HB
    obtain ⟨j, hj, rfl, rfl, HO, HB⟩ := hrel
    by_cases hjt : j < n
    ·
     have hC1 := Kd.C_below HC1.out HB.out
     have hC0 := Kd.C_below HC0.out HB.out
     obtain ⟨ad0, rfl, hcs0⟩ := b_ad hC0 (by omega)
     have k0 := b_cell hC1 i (by omega)
     have k1 := b_cell hC1 (i + 1) (by omega)
     have k2 := b_cell hC1 (i + 2) (by omega)
     have hcell := b_cell hC0 j hjt
     rw [show ad.add (i + 1) = ⟨ad.block, ad.off + (i + 1), none⟩ by simp [Addr.add], KB.out] at k1
     rw [show ad.add (i + 2) = ⟨ad.block, ad.off + (i + 2), none⟩ by simp [Addr.add], KD.out] at k2
     rw [KA.out] at k0
     obtain ⟨x, hx⟩ : ∃ x, p.getD j 0 = x := ⟨_, rfl⟩
     obtain ⟨s, hs⟩ : ∃ s, bandS p a b d j = s := ⟨_, rfl⟩
     obtain ⟨q, hq⟩ : ∃ q, weightF (j : Int) a b d = q := ⟨_, rfl⟩
     have HN : Aside0 (bandS p a b d (j + 1) = wrap64 (s + wrap64 (x * q))) := ⟨by rw [bandS, hs, hx, hq]⟩
     have HQ := Aside0.mk hq
     rw [hx] at hcell
     rw [hs]
     have j0 : (0 : Int) ≤ (i : Int) := by omega
     have j1 : (i : Int) < (K : Int) + 2 := by omega
     have j2 : (0 : Int) ≤ (i : Int) + 1 := by omega
     have j3 : (i : Int) + 1 < (K : Int) + 2 := by omega
     have j4 : (0 : Int) ≤ (i : Int) + 2 := by omega
     have j5 : (i : Int) + 2 < (K : Int) + 2 := by omega
     have i1 : ((i : Int) + 1).toNat = i + 1 := by omega
     have i2 : ((i : Int) + 2).toNat = i + 2 := by omega
     have i3 : IntKind.i64.wrap ((i : Int) + 1) = (i : Int) + 1 := by rw [IntKind.wrap_i64]; omega
     have i4 : IntKind.i64.wrap ((i : Int) + 2) = (i : Int) + 2 := by rw [IntKind.wrap_i64]; omega
     have j6 : (0 : Int) ≤ (j : Int) := by omega
     have j7 : (j : Int) < (n : Int) := by omega
     clear hx hs hq hC1 hC0 hcs0
     go_wp2
     go_quiet (first
      | (go_at_call 92; exact quiet_e (rw_c _ _ _ _ _ _ HQ.out)))
     go_wp2
     go_roundw
     case rel => exact ⟨j + 1, by omega, by go_num, by rw [HN.out], ⟨Kd.R_drewN HO.out _⟩, ⟨pw_below_drewN HB.out _⟩⟩
     case measure => simp [intOf]; omega
    ·
     obtain rfl : n = j := by omega
     obtain ⟨s, hs⟩ : ∃ s, bandS p a b d n = s := ⟨_, rfl⟩
     have hb := bandS_in p a b d n
     rw [hs] at hb ⊢
     have HP := Aside0.mk (rquot_f hb (n := 256) (by decide) (by decide))
     have HW : Aside0 (bandF p e i = s / 256) := ⟨by rw [HV.out]; unfold bandV; rw [HL0.out, hs]⟩
     clear hs hb
     go_wp2_with (first
      | (go_at_call 93; (with_reducible refine (earshotref02_Quot.calls _ _ _ _ HP.out).mono ?_); rintro e_ w' ⟨rfl, ⟨nd, rfl⟩⟩)
      | ((with_reducible refine gate_builtin (b := .append) (xs := #[.tmp 45, .tmp 48]) rfl ?_); at_builtin; refine Kd.R_append (Kd.int .i64) (w0 := w) w.heap.size rfl (.tmp 45) (.tmp 48) 22 3 (.int .i64 0) 8 rfl Tryd.underlying22 turn_info rfl (by decide) (by omega) u5 ((List.range i).map (bandF p e)) (s / 256) [.int .i64 (s / 256)] (fun _ => True) (fun _ => False) rfl rfl ?aP (fun _ hk => hk.elim) ?aF ?aO ?aB ?aS ?aL ?_; (case aP => exact rfl); (case aB => exact (by repeat (first | exact HB.out | apply below_alloc | apply pw_below_drewN | apply below_drew1))); (case aF => exact (fun _ _ => trivial)); (case aO => exact (by (with_reducible repeat (first | apply Kd.R_alloc | apply Kd.R_drewN | apply Kd.R_drew)); exact HO.out)); (case aS => exact (below_size (by repeat (first | exact HB.out | apply below_alloc | apply pw_below_drewN | apply below_drew1)))); (case aL => rw [List.length_map, List.length_range]; omega); intro vn wn ho hb hg hat; have HBn := Aside0.mk hb; have HOn := Aside0.mk ho; clear HB HO; have HB := HBn; have HO := HOn; clear HBn HOn ho hb hg hat))
     go_roundw
     case rel => exact ⟨i + 1, by omega, by go_num, ⟨by rw [← bands_snoc, HW.out]; exact HO.out⟩, HB⟩
     case measure => simp [intOf]; omega
  ·
   obtain rfl : K = i := by omega
   have hm3 : m = K + 2 ∨ K = 0 ∧ (m = 0 ∨ m = 1) := by omega
   clear hK hlt
   rcases hm3 with rfl | ⟨rfl, rfl | rfl⟩
   all_goals
    go_wp2
    go_ret
    exact ⟨_, rfl, by rw [HE.out]; exact HO.out, HB.out⟩
theorem earshotref11_Bands.calls (A0 : Option Addr) (c0 : Nat) (l0 : List Int) (A1 : Option Addr) (c1 : Nat) (l1 : List Int) (r : List Int) (w : World) (hr0 : Kd.C (Kd.int .i64) w A0 l0.length l0) (hc0 : l0.length ≤ c0) (hr1 : Kd.C (Kd.int .i64) w A1 l1.length l1) (hc1 : l1.length ≤ c1) (h : earshotref11_Bands.f l0 l1 = some r) :
  Calls Tryd.prog 58 #[.slice A0 l0.length c0, .slice A1 l1.length c1] w fun e w' => ∃ v0_ : Value, e = .returned v0_ ∧ Kd.R (Kd.int .i64) 3 w' w.heap.size (fun _ => True) v0_ r ∧ Below w.heap.size w w' := by
 unfold earshotref11_Bands.f at h
 split at h
 case isFalse => cases h
 rename_i hz
 obtain rfl := Option.some.inj h
 simp only [Bool.and_eq_true, decide_eq_true_eq] at hz
 exact rbands_go A0 A1 _ c0 _ c1 l0 l1 w rfl hr0 hz.1 rfl hr1 hz.2
end Go.Proofs.YtmhacdnnnebpdaaDoor.PFrontStream
