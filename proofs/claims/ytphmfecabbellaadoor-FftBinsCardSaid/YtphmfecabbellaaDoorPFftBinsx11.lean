-- Written by a program of this work (wip/tools) for this claim; Lean checks it.
import Derived.Test.YtphmfecabbellaaDoorPFftBinsx0
import Derived.Test.YtphmfecabbellaaDoorPFftBinsx1
import Derived.Test.YtphmfecabbellaaDoorPFftBinsx2
import Derived.Test.YtphmfecabbellaaDoorPFftBinsx4
import Derived.Test.YtphmfecabbellaaDoorPFftBinsx5
import Derived.Test.YtphmfecabbellaaDoorPFftBinsx9
import Derived.Test.YtphmfecabbellaaDoorPFftBinsx10
namespace Go.Proofs.YtphmfecabbellaaDoor.PFftBins
open Go.RowKit Go.Proofs.YtphmfecabbellaaDoorW.PrintWords Go.Proofs.YtphmfecabbellaaDoorW.PrintLast Go.Proofs.YtphmfecabbellaaDoorW.PrintMore
attribute [local go_sem] max2_int min2_int max_two min_two max_three min_three max_four min_four   -- for this text's walks alone
set_option linter.unusedVariables false
set_option linter.unusedSimpArgs false

/-! ### earshotlaw10_bins: function 31 -/
def earshotlaw10_bins.f (k : Nat) (l0 : List Int) : Option (Bool) := (fft_Bins.f l0).bind fun bt183 => ((earshotref10_Bins.f k l0).bind fun bt190 => ((earshotref04_Same.f k bt183.1 bt190.1).bind fun t198 => ((earshotref04_Same.f k bt183.2.1 bt190.2.1).bind fun t199 => ((fft_Power.f bt183.1 bt183.2.1).bind fun t200 => ((earshotref10_Power.f k bt190.1 bt190.2.1).bind fun t203 => ((earshotref04_Same.f k t200 t203).bind fun t206 => ((earshotref10_May.f (l0.length : Int)).bind fun t207 => (if t198 = true then (if t199 = true then (if t206 = true then (if bt183.2.2 = bt190.2.2 then (if t207 = true then (some true) else ((fft_Spins.f l0).bind fun t208 => ((fft_Sum.f 1 l0).bind fun t211 => (some ((wrap64 ((t208.length : Int) + (t211.length : Int))) == 0))))) else (some false)) else (some false)) else (some false)) else (some false)))))))))
theorem earshotlaw10_bins.mono : ∀ a0 k, LeO (earshotlaw10_bins.f k a0) (earshotlaw10_bins.f (k + 1) a0) := by
  intro a0 k
  unfold earshotlaw10_bins.f
  repeat' first
      | (with_reducible exact earshotref04_Same.mono _ _ _)
      | (with_reducible exact earshotref10_Bins.mono _ _)
      | (with_reducible exact earshotref10_Power.mono _ _ _)
      | (with_reducible exact LeO.refl _)
      | (with_reducible exact LeO.none _)
      | (with_reducible refine LeO.ite ?_ ?_)
      | (with_reducible refine LeO.bind ?_ (fun _ => ?_))
      | exact earshotref04_Same.mono _ _ _
      | exact earshotref10_Bins.mono _ _
      | exact earshotref10_Power.mono _ _ _
      | exact LeO.none _
      | refine LeO.ite ?_ ?_
      | refine LeO.bind ?_ (fun _ => ?_)
def earshotlaw10_bins.T5 : Bool × List (List Nat × List Nat) := (true, [([], []), ([], []), ([0, 1], [0, 1]), ([], []), ([3], [3]), ([], []), ([5], [5]), ([4, 6, 2], [4, 6]), ([2, 7, 7], [2, 7]), ([8, 8, 0, 1, 2, 3, 4, 5, 6, 7, 8], [8])])
def earshotlaw10_bins.B5 : List Nat := [0, 0, 3, 0, 8, 0, 32, 127, 255, 511]
theorem earshotlaw10_bins.tab5 : rtab .any (opsOf Tryd.f31 5) = earshotlaw10_bins.T5 := by kernel_rfl
theorem earshotlaw10_bins.bits5 : waitsOk earshotlaw10_bins.T5.2 earshotlaw10_bins.B5 = true := by kernel_rfl
set_option maxHeartbeats 8000000 in
set_option maxRecDepth 100000 in
theorem earshotlaw10_bins.calls (k : Nat) (A0 : Option Addr) (c0 : Nat) (l0 : List Int) (r : Bool) (w : World) (hG : GlobA w) (hr0 : Kd.C (Kd.int .i64) w A0 l0.length l0) (hc0 : l0.length ≤ c0) (h : earshotlaw10_bins.f k l0 = some r) :
    Calls Tryd.prog 31 #[.slice A0 l0.length c0] w fun e w' => e = .returned (.bool r) ∧ Below w.heap.size w w' := by
  have hu58 := Tryd.underlying58
  have HR0 := Aside0.mk hr0
  have HC0 := Aside0.mk hc0
  clear hr0 hc0
  have HB := Aside0.mk (Below.refl w.heap.size w)
  have HG := Aside0.mk hG
  clear hG
  have H : ((fft_Bins.f l0).bind fun bt183 => ((earshotref10_Bins.f k l0).bind fun bt190 => ((earshotref04_Same.f k bt183.1 bt190.1).bind fun t198 => ((earshotref04_Same.f k bt183.2.1 bt190.2.1).bind fun t199 => ((fft_Power.f bt183.1 bt183.2.1).bind fun t200 => ((earshotref10_Power.f k bt190.1 bt190.2.1).bind fun t203 => ((earshotref04_Same.f k t200 t203).bind fun t206 => ((earshotref10_May.f (l0.length : Int)).bind fun t207 => (if t198 = true then (if t199 = true then (if t206 = true then (if bt183.2.2 = bt190.2.2 then (if t207 = true then (some true) else ((fft_Spins.f l0).bind fun t208 => ((fft_Sum.f 1 l0).bind fun t211 => (some ((wrap64 ((t208.length : Int) + (t211.length : Int))) == 0))))) else (some false)) else (some false)) else (some false)) else (some false)))))))))) = some r := h
  clear h
  replace H := Option.bind_eq_some_iff.mp H
  obtain ⟨⟨t183, t184, t185⟩, A20, H⟩ := H
  replace H : ((earshotref10_Bins.f k l0).bind fun bt190 => ((earshotref04_Same.f k t183 bt190.1).bind fun t198 => ((earshotref04_Same.f k t184 bt190.2.1).bind fun t199 => ((fft_Power.f t183 t184).bind fun t200 => ((earshotref10_Power.f k bt190.1 bt190.2.1).bind fun t203 => ((earshotref04_Same.f k t200 t203).bind fun t206 => ((earshotref10_May.f (l0.length : Int)).bind fun t207 => (if t198 = true then (if t199 = true then (if t206 = true then (if t185 = bt190.2.2 then (if t207 = true then (some true) else ((fft_Spins.f l0).bind fun t208 => ((fft_Sum.f 1 l0).bind fun t211 => (some ((wrap64 ((t208.length : Int) + (t211.length : Int))) == 0))))) else (some false)) else (some false)) else (some false)) else (some false))))))))) = some r := H
  have A2 := Aside0.mk A20
  clear A20
  replace H := Option.bind_eq_some_iff.mp H
  obtain ⟨⟨t190, t193, t196⟩, A30, H⟩ := H
  replace H : ((earshotref04_Same.f k t183 t190).bind fun t198 => ((earshotref04_Same.f k t184 t193).bind fun t199 => ((fft_Power.f t183 t184).bind fun t200 => ((earshotref10_Power.f k t190 t193).bind fun t203 => ((earshotref04_Same.f k t200 t203).bind fun t206 => ((earshotref10_May.f (l0.length : Int)).bind fun t207 => (if t198 = true then (if t199 = true then (if t206 = true then (if t185 = t196 then (if t207 = true then (some true) else ((fft_Spins.f l0).bind fun t208 => ((fft_Sum.f 1 l0).bind fun t211 => (some ((wrap64 ((t208.length : Int) + (t211.length : Int))) == 0))))) else (some false)) else (some false)) else (some false)) else (some false)))))))) = some r := H
  have A3 := Aside0.mk A30
  clear A30
  replace H := Option.bind_eq_some_iff.mp H
  obtain ⟨t198, A40, H⟩ := H
  replace H : ((earshotref04_Same.f k t184 t193).bind fun t199 => ((fft_Power.f t183 t184).bind fun t200 => ((earshotref10_Power.f k t190 t193).bind fun t203 => ((earshotref04_Same.f k t200 t203).bind fun t206 => ((earshotref10_May.f (l0.length : Int)).bind fun t207 => (if t198 = true then (if t199 = true then (if t206 = true then (if t185 = t196 then (if t207 = true then (some true) else ((fft_Spins.f l0).bind fun t208 => ((fft_Sum.f 1 l0).bind fun t211 => (some ((wrap64 ((t208.length : Int) + (t211.length : Int))) == 0))))) else (some false)) else (some false)) else (some false)) else (some false))))))) = some r := H
  have A4 := Aside0.mk A40
  clear A40
  replace H := Option.bind_eq_some_iff.mp H
  obtain ⟨t199, A50, H⟩ := H
  replace H : ((fft_Power.f t183 t184).bind fun t200 => ((earshotref10_Power.f k t190 t193).bind fun t203 => ((earshotref04_Same.f k t200 t203).bind fun t206 => ((earshotref10_May.f (l0.length : Int)).bind fun t207 => (if t198 = true then (if t199 = true then (if t206 = true then (if t185 = t196 then (if t207 = true then (some true) else ((fft_Spins.f l0).bind fun t208 => ((fft_Sum.f 1 l0).bind fun t211 => (some ((wrap64 ((t208.length : Int) + (t211.length : Int))) == 0))))) else (some false)) else (some false)) else (some false)) else (some false)))))) = some r := H
  have A5 := Aside0.mk A50
  clear A50
  replace H := Option.bind_eq_some_iff.mp H
  obtain ⟨t200, A60, H⟩ := H
  replace H : ((earshotref10_Power.f k t190 t193).bind fun t203 => ((earshotref04_Same.f k t200 t203).bind fun t206 => ((earshotref10_May.f (l0.length : Int)).bind fun t207 => (if t198 = true then (if t199 = true then (if t206 = true then (if t185 = t196 then (if t207 = true then (some true) else ((fft_Spins.f l0).bind fun t208 => ((fft_Sum.f 1 l0).bind fun t211 => (some ((wrap64 ((t208.length : Int) + (t211.length : Int))) == 0))))) else (some false)) else (some false)) else (some false)) else (some false))))) = some r := H
  have A6 := Aside0.mk A60
  clear A60
  replace H := Option.bind_eq_some_iff.mp H
  obtain ⟨t203, A70, H⟩ := H
  replace H : ((earshotref04_Same.f k t200 t203).bind fun t206 => ((earshotref10_May.f (l0.length : Int)).bind fun t207 => (if t198 = true then (if t199 = true then (if t206 = true then (if t185 = t196 then (if t207 = true then (some true) else ((fft_Spins.f l0).bind fun t208 => ((fft_Sum.f 1 l0).bind fun t211 => (some ((wrap64 ((t208.length : Int) + (t211.length : Int))) == 0))))) else (some false)) else (some false)) else (some false)) else (some false)))) = some r := H
  have A7 := Aside0.mk A70
  clear A70
  replace H := Option.bind_eq_some_iff.mp H
  obtain ⟨t206, A80, H⟩ := H
  replace H : ((earshotref10_May.f (l0.length : Int)).bind fun t207 => (if t198 = true then (if t199 = true then (if t206 = true then (if t185 = t196 then (if t207 = true then (some true) else ((fft_Spins.f l0).bind fun t208 => ((fft_Sum.f 1 l0).bind fun t211 => (some ((wrap64 ((t208.length : Int) + (t211.length : Int))) == 0))))) else (some false)) else (some false)) else (some false)) else (some false))) = some r := H
  have A8 := Aside0.mk A80
  clear A80
  replace H := Option.bind_eq_some_iff.mp H
  obtain ⟨t207, A90, H⟩ := H
  replace H : (if t198 = true then (if t199 = true then (if t206 = true then (if t185 = t196 then (if t207 = true then (some true) else ((fft_Spins.f l0).bind fun t208 => ((fft_Sum.f 1 l0).bind fun t211 => (some ((wrap64 ((t208.length : Int) + (t211.length : Int))) == 0))))) else (some false)) else (some false)) else (some false)) else (some false)) = some r := H
  have A9 := Aside0.mk A90
  clear A90
  by_cases c10 : t198 = true
  · subst c10
    have H1 : (if t199 = true then (if t206 = true then (if t185 = t196 then (if t207 = true then (some true) else ((fft_Spins.f l0).bind fun t208 => ((fft_Sum.f 1 l0).bind fun t211 => (some ((wrap64 ((t208.length : Int) + (t211.length : Int))) == 0))))) else (some false)) else (some false)) else (some false)) = some r := by rw [if_pos rfl] at H; exact H
    clear H
    have H := H1
    clear H1
    by_cases c11 : t199 = true
    · subst c11
      have H1 : (if t206 = true then (if t185 = t196 then (if t207 = true then (some true) else ((fft_Spins.f l0).bind fun t208 => ((fft_Sum.f 1 l0).bind fun t211 => (some ((wrap64 ((t208.length : Int) + (t211.length : Int))) == 0))))) else (some false)) else (some false)) = some r := by rw [if_pos rfl] at H; exact H
      clear H
      have H := H1
      clear H1
      by_cases c12 : t206 = true
      · subst c12
        have H1 : (if t185 = t196 then (if t207 = true then (some true) else ((fft_Spins.f l0).bind fun t208 => ((fft_Sum.f 1 l0).bind fun t211 => (some ((wrap64 ((t208.length : Int) + (t211.length : Int))) == 0))))) else (some false)) = some r := by rw [if_pos rfl] at H; exact H
        clear H
        have H := H1
        clear H1
        by_cases c13 : t185 = t196
        · rw [if_pos c13] at H
          have c13b0 : (t185 == t196) = true := beq_iff_eq.mpr c13
          have c13b1 : (t185 != t196) = false := bne_eq_false_iff_eq.mpr c13
          clear c13
          by_cases c14 : t207 = true
          · subst c14
            have H1 : (some true) = some r := by rw [if_pos rfl] at H; exact H
            clear H
            have H := H1
            clear H1
            obtain rfl := Option.some.inj H
            go_enter Tryd.func31, Tryd.ntmps31
            try go_wp2_with (first | ((with_reducible refine gate_callee (f := 29) rfl ?_); refine goesL_ (some 13) rfl rfl Tryd.func29 (by kernel_rfl) rfl #[.slice A0 l0.length c0] rfl (by (try simp only [List.map_toArray, List.map_cons, List.map_nil]); first | done | rfl | (simp only [List.length_drop, List.length_take]; rfl)) ?_; (with_reducible refine (fft_Bins.calls _ _ l0 t183 t184 t185 _ ?side1 ?side2 ?side3 A2.out).mono ?_); (case side1 => exact GlobA.below HG.out (by repeat (first | (with_reducible first | exact HB.out | apply below_alloc | apply pw_below_drewN | apply below_drew1) | exact HB.out))); (case side2 => repeat (first | exact HR0.out | (with_reducible refine Kd.C_alloc ?_ _) | (with_reducible refine Kd.C_drewN ?_ _) | (with_reducible refine Kd.C_drew ?_))); (case side3 => exact HC0.out); rintro e w15 ⟨v186, v188, rfl, ho0, ho1, hb⟩; refine ⟨_, rfl, ?_⟩; have n0_ := Aside0.mk (Kd.R_lower ho0 (below_size (by repeat (first | (with_reducible first | exact HB.out | apply below_alloc | apply pw_below_drewN | apply below_drew1) | exact HB.out)))); have n1_ := Aside0.mk (Kd.R_lower ho1 (below_size (by repeat (first | (with_reducible first | exact HB.out | apply below_alloc | apply pw_below_drewN | apply below_drew1) | exact HB.out)))); have n2_ := Aside0.mk (below_step (by repeat (first | (with_reducible first | exact HB.out | apply below_alloc | apply pw_below_drewN | apply below_drew1) | exact HB.out)) hb); clear HB; have HO187 := n0_; have HO189 := n1_; have HB := n2_; clear n0_ n1_ n2_; (try clear hb); (try clear hb2); (try clear hk); (try clear hi); (try clear ho0); (try clear ho1)) | ((with_reducible refine gate_callee (f := 51) rfl ?_); refine goesL_ (some 18) rfl rfl Tryd.func51 (by kernel_rfl) rfl #[.slice A0 l0.length c0] rfl (by (try simp only [List.map_toArray, List.map_cons, List.map_nil]); first | done | rfl | (simp only [List.length_drop, List.length_take]; rfl)) ?_; (with_reducible refine (earshotref10_Bins.calls k _ _ l0 t190 t193 t196 _ ?side1 ?side2 A3.out).mono ?_); (case side1 => repeat (first | exact (Kd.C_below HR0.out HB.out) | (with_reducible refine Kd.C_alloc ?_ _) | (with_reducible refine Kd.C_drewN ?_ _) | (with_reducible refine Kd.C_drew ?_))); (case side2 => exact HC0.out); rintro e w16 ⟨v191, v194, rfl, ho0, ho1, hb⟩; refine ⟨_, rfl, ?_⟩; have n0_ := Aside0.mk (Kd.R_mono (Kd.R_told (Kd.R_told (Kd.R_old (by (with_reducible repeat (first | apply Kd.R_alloc | apply Kd.R_drewN | apply Kd.R_drew)); (first | exact HO187.out | exact Kd.R_mono HO187.out (fun _ _ => trivial) | exact Kd.R_mono HO187.out (fun _ hk => hk.1))) hb) (Kd.R_base ho0)) (Kd.R_base ho1)) (fun _ h_ => h_.1)); have n1_ := Aside0.mk (Kd.R_mono (Kd.R_told (Kd.R_told (Kd.R_old (by (with_reducible repeat (first | apply Kd.R_alloc | apply Kd.R_drewN | apply Kd.R_drew)); (first | exact HO189.out | exact Kd.R_mono HO189.out (fun _ _ => trivial) | exact Kd.R_mono HO189.out (fun _ hk => hk.1))) hb) (Kd.R_base ho0)) (Kd.R_base ho1)) (fun _ h_ => h_.1)); have n2_ := Aside0.mk (Kd.R_lower (Kd.R_new' (Kd.R_new' ho0 (Kd.R_lt (by (with_reducible repeat (first | apply Kd.R_alloc | apply Kd.R_drewN | apply Kd.R_drew)); (first | exact HO187.out | exact Kd.R_mono HO187.out (fun _ _ => trivial) | exact Kd.R_mono HO187.out (fun _ hk => hk.1))))) (Kd.R_lt (by (with_reducible repeat (first | apply Kd.R_alloc | apply Kd.R_drewN | apply Kd.R_drew)); (first | exact HO189.out | exact Kd.R_mono HO189.out (fun _ _ => trivial) | exact Kd.R_mono HO189.out (fun _ hk => hk.1))))) (below_size (by repeat (first | (with_reducible first | exact HB.out | apply below_alloc | apply pw_below_drewN | apply below_drew1) | exact HB.out)))); have n3_ := Aside0.mk (Kd.R_lower (Kd.R_new' (Kd.R_new' ho1 (Kd.R_lt (by (with_reducible repeat (first | apply Kd.R_alloc | apply Kd.R_drewN | apply Kd.R_drew)); (first | exact HO187.out | exact Kd.R_mono HO187.out (fun _ _ => trivial) | exact Kd.R_mono HO187.out (fun _ hk => hk.1))))) (Kd.R_lt (by (with_reducible repeat (first | apply Kd.R_alloc | apply Kd.R_drewN | apply Kd.R_drew)); (first | exact HO189.out | exact Kd.R_mono HO189.out (fun _ _ => trivial) | exact Kd.R_mono HO189.out (fun _ hk => hk.1))))) (below_size (by repeat (first | (with_reducible first | exact HB.out | apply below_alloc | apply pw_below_drewN | apply below_drew1) | exact HB.out)))); have n4_ := Aside0.mk (below_step (by repeat (first | (with_reducible first | exact HB.out | apply below_alloc | apply pw_below_drewN | apply below_drew1) | exact HB.out)) hb); clear HO187; clear HO189; clear HB; have HO187 := n0_; have HO189 := n1_; have HO192 := n2_; have HO195 := n3_; have HB := n4_; clear n0_ n1_ n2_ n3_ n4_; (try clear hb); (try clear hb2); (try clear hk); (try clear hi); (try clear ho0); (try clear ho1)) | ((with_reducible refine gate_dst (N := 6) rfl ?_); (try (refine gate_guard (by rfl) ?_; dsimp only)); refine box_event ?hg (N := 6) ?hd (cs := #[.slice none 0 0, .slice none 0 0, .int .i64 0]) (t := 58) ?hr ?_; (case hd => rfl); (case hg => first | rfl | exact wanted_on rfl rfl rfl (by first | assumption | rfl | (simp [*]; done))); (case hr => first | (go_simp; done) | (go_simp; rfl)); intro gb197 hg w17 hbox hb; have n0_ := Aside0.mk (Kd.R_below (by (with_reducible repeat (first | apply Kd.R_alloc | apply Kd.R_drewN | apply Kd.R_drew)); (first | exact HO187.out | exact Kd.R_mono HO187.out (fun _ _ => trivial) | exact Kd.R_mono HO187.out (fun _ hk => hk.1))) hb); have n1_ := Aside0.mk (Kd.R_below (by (with_reducible repeat (first | apply Kd.R_alloc | apply Kd.R_drewN | apply Kd.R_drew)); (first | exact HO189.out | exact Kd.R_mono HO189.out (fun _ _ => trivial) | exact Kd.R_mono HO189.out (fun _ hk => hk.1))) hb); have n2_ := Aside0.mk (Kd.R_below (by (with_reducible repeat (first | apply Kd.R_alloc | apply Kd.R_drewN | apply Kd.R_drew)); (first | exact HO192.out | exact Kd.R_mono HO192.out (fun _ _ => trivial) | exact Kd.R_mono HO192.out (fun _ hk => hk.1))) hb); have n3_ := Aside0.mk (Kd.R_below (by (with_reducible repeat (first | apply Kd.R_alloc | apply Kd.R_drewN | apply Kd.R_drew)); (first | exact HO195.out | exact Kd.R_mono HO195.out (fun _ _ => trivial) | exact Kd.R_mono HO195.out (fun _ hk => hk.1))) hb); have n4_ := Aside0.mk (below_step (by repeat (first | (with_reducible first | exact HB.out | apply below_alloc | apply pw_below_drewN | apply below_drew1) | exact HB.out)) hb); have n5_ := Aside0.mk (hbox); have n6_ := Aside0.mk ((by rw [hg]; exact (below_size (by repeat (first | (with_reducible first | exact HB.out | apply below_alloc | apply pw_below_drewN | apply below_drew1) | exact HB.out))) : w.heap.size ≤ gb197)); have n7_ := Aside0.mk ((by rw [hg]; exact (below_size (by repeat (first | (with_reducible first | exact HB.out | apply below_alloc | apply pw_below_drewN | apply below_drew1) | exact HB.out))) : w.heap.size ≤ gb197)); clear HO187; clear HO189; clear HO192; clear HO195; clear HB; have HO187 := n0_; have HO189 := n1_; have HO192 := n2_; have HO195 := n3_; have HB := n4_; have BK197 := n5_; have GW197 := n6_; have GE197 := n7_; clear n0_ n1_ n2_ n3_ n4_ n5_ n6_ n7_; clear hb hbox hg; obtain ⟨Ao18, co18, eo18⟩ := Kd.R_slice HO192.out; subst eo18; have hcz19_0 : w17.cell? ⟨gb197, 0, none⟩ = some (.slice none 0 0) := (blk_cell BK197.out 0).trans rfl; have hcz19_1 : w17.cell? ⟨gb197, 1, none⟩ = some (.slice none 0 0) := (blk_cell BK197.out 1).trans rfl; have hcz19_2 : w17.cell? ⟨gb197, 2, none⟩ = some (.int .i64 0) := (blk_cell BK197.out 2).trans rfl; have hfz19_0 := blk_frozen BK197.out 0; have hfz19_1 := blk_frozen BK197.out 1; have hfz19_2 := blk_frozen BK197.out 2; obtain ⟨Ao20, co20, eo20⟩ := Kd.R_slice HO195.out; subst eo20; obtain ⟨Ao21, co21, eo21⟩ := Kd.R_slice HO187.out; subst eo21) | ((with_reducible refine gate_callee (f := 19) rfl ?_); refine goesL_ (some 22) rfl rfl Tryd.func19 (by kernel_rfl) rfl #[.slice Ao21 t183.length co21, .slice Ao18 t190.length co18] rfl (by (try simp only [List.map_toArray, List.map_cons, List.map_nil]); first | done | rfl | (simp only [List.length_drop, List.length_take]; rfl)) ?_; (with_reducible refine (earshotref04_Same.calls k _ _ t183 _ _ t190 true _ ?side1 ?side2 ?side3 ?side4 A4.out).mono ?_); (case side1 => refine (Kd.R_reads' (e := 3) (base := w.heap.size) (ok := fun k_ => ((some k_ ≠ (v188 : Value).ownBlock ∧ some k_ ≠ (.slice Ao18 t190.length co18 : Value).ownBlock) ∧ some k_ ≠ (.slice Ao20 t193.length co20 : Value).ownBlock)) (n := t183.length) (c := co21) ?_).2.2; exact (by (with_reducible repeat (first | apply Kd.R_alloc | apply Kd.R_drewN | apply Kd.R_drew)); exact (Kd.R_mono (Kd.R_far (p := ⟨gb197, 2, none⟩) (Kd.R_far (p := ⟨gb197, 1, none⟩) (Kd.R_far (p := ⟨gb197, 0, none⟩) (Kd.R_types HO187.out BK197.out (by decide)) (fun _ hk => hk.2) (.slice Ao18 t190.length co18)) (fun _ hk => hk.2) (.slice Ao20 t193.length co20)) (fun _ hk => hk.2) (.int .i64 t196)) (fun _ h_ => h_.1)))); (case side2 => exact (Kd.R_reads' HO187.out).2.1); (case side3 => refine (Kd.R_reads' (e := 3) (base := w.heap.size) (ok := fun k_ => ((some k_ ≠ (.slice Ao20 t193.length co20 : Value).ownBlock ∧ some k_ ≠ (.slice Ao21 t183.length co21 : Value).ownBlock) ∧ some k_ ≠ (v188 : Value).ownBlock)) (n := t190.length) (c := co18) ?_).2.2; exact (by (with_reducible repeat (first | apply Kd.R_alloc | apply Kd.R_drewN | apply Kd.R_drew)); exact (Kd.R_mono (Kd.R_far (p := ⟨gb197, 2, none⟩) (Kd.R_far (p := ⟨gb197, 1, none⟩) (Kd.R_far (p := ⟨gb197, 0, none⟩) (Kd.R_types HO192.out BK197.out (by decide)) (fun _ hk => hk.2) (.slice Ao18 t190.length co18)) (fun _ hk => hk.2) (.slice Ao20 t193.length co20)) (fun _ hk => hk.2) (.int .i64 t196)) (fun _ h_ => h_.1)))); (case side4 => exact (Kd.R_reads' HO192.out).2.1); rintro e w' ⟨rfl, ⟨nd, rfl⟩⟩; refine ⟨_, rfl, ?_⟩; obtain ⟨Ao22, co22, eo22⟩ := Kd.R_slice HO189.out; subst eo22) | ((with_reducible refine gate_callee (f := 19) rfl ?_); refine goesL_ (some 26) rfl rfl Tryd.func19 (by kernel_rfl) rfl #[.slice Ao22 t184.length co22, .slice Ao20 t193.length co20] rfl (by (try simp only [List.map_toArray, List.map_cons, List.map_nil]); first | done | rfl | (simp only [List.length_drop, List.length_take]; rfl)) ?_; (with_reducible refine (earshotref04_Same.calls k _ _ t184 _ _ t193 true _ ?side1 ?side2 ?side3 ?side4 A5.out).mono ?_); (case side1 => refine (Kd.R_reads' (e := 3) (base := w.heap.size) (ok := fun k_ => ((some k_ ≠ (.slice Ao21 t183.length co21 : Value).ownBlock ∧ some k_ ≠ (.slice Ao18 t190.length co18 : Value).ownBlock) ∧ some k_ ≠ (.slice Ao20 t193.length co20 : Value).ownBlock)) (n := t184.length) (c := co22) ?_).2.2; exact (by (with_reducible repeat (first | apply Kd.R_alloc | apply Kd.R_drewN | apply Kd.R_drew)); exact (Kd.R_mono (Kd.R_far (p := ⟨gb197, 2, none⟩) (Kd.R_far (p := ⟨gb197, 1, none⟩) (Kd.R_far (p := ⟨gb197, 0, none⟩) (Kd.R_types HO189.out BK197.out (by decide)) (fun _ hk => hk.2) (.slice Ao18 t190.length co18)) (fun _ hk => hk.2) (.slice Ao20 t193.length co20)) (fun _ hk => hk.2) (.int .i64 t196)) (fun _ h_ => h_.1)))); (case side2 => exact (Kd.R_reads' HO189.out).2.1); (case side3 => refine (Kd.R_reads' (e := 3) (base := w.heap.size) (ok := fun k_ => ((some k_ ≠ (.slice Ao18 t190.length co18 : Value).ownBlock ∧ some k_ ≠ (.slice Ao21 t183.length co21 : Value).ownBlock) ∧ some k_ ≠ (.slice Ao22 t184.length co22 : Value).ownBlock)) (n := t193.length) (c := co20) ?_).2.2; exact (by (with_reducible repeat (first | apply Kd.R_alloc | apply Kd.R_drewN | apply Kd.R_drew)); exact (Kd.R_mono (Kd.R_far (p := ⟨gb197, 2, none⟩) (Kd.R_far (p := ⟨gb197, 1, none⟩) (Kd.R_far (p := ⟨gb197, 0, none⟩) (Kd.R_types HO195.out BK197.out (by decide)) (fun _ hk => hk.2) (.slice Ao18 t190.length co18)) (fun _ hk => hk.2) (.slice Ao20 t193.length co20)) (fun _ hk => hk.2) (.int .i64 t196)) (fun _ h_ => h_.1)))); (case side4 => exact (Kd.R_reads' HO195.out).2.1); rintro e w' ⟨rfl, ⟨nd, rfl⟩⟩; refine ⟨_, rfl, ?_⟩))
            have n0_ : Aside0 (Kd.R (Kd.int .i64) 3 (((w17.setCell ⟨gb197, 0, none⟩ (.slice Ao18 t190.length co18)).setCell ⟨gb197, 1, none⟩ (.slice Ao20 t193.length co20)).setCell ⟨gb197, 2, none⟩ (.int .i64 t196)) w.heap.size (fun k_ => some k_ ≠ (.slice Ao22 t184.length co22 : Value).ownBlock ∧ some k_ ≠ (.slice Ao18 t190.length co18 : Value).ownBlock ∧ some k_ ≠ (.slice Ao20 t193.length co20 : Value).ownBlock) (.slice Ao21 t183.length co21) t183) := ⟨by (with_reducible repeat (first | apply Kd.R_alloc | apply Kd.R_drewN | apply Kd.R_drew)); exact Kd.R_mono (Kd.R_far (p := ⟨gb197, 2, none⟩) (Kd.R_far (p := ⟨gb197, 1, none⟩) (Kd.R_far (p := ⟨gb197, 0, none⟩) (Kd.R_types HO187.out BK197.out (by decide)) (fun _ hk => hk.2) (.slice Ao18 t190.length co18)) (fun _ hk => hk.2) (.slice Ao20 t193.length co20)) (fun _ hk => hk.2) (.int .i64 t196)) (fun _ hk => ⟨hk.1.1.1, ⟨hk.1.1.2, hk.1.2⟩⟩)⟩
            have n1_ : Aside0 (Kd.R (Kd.int .i64) 3 (((w17.setCell ⟨gb197, 0, none⟩ (.slice Ao18 t190.length co18)).setCell ⟨gb197, 1, none⟩ (.slice Ao20 t193.length co20)).setCell ⟨gb197, 2, none⟩ (.int .i64 t196)) w.heap.size (fun k_ => some k_ ≠ (.slice Ao21 t183.length co21 : Value).ownBlock ∧ some k_ ≠ (.slice Ao18 t190.length co18 : Value).ownBlock ∧ some k_ ≠ (.slice Ao20 t193.length co20 : Value).ownBlock) (.slice Ao22 t184.length co22) t184) := ⟨by (with_reducible repeat (first | apply Kd.R_alloc | apply Kd.R_drewN | apply Kd.R_drew)); exact Kd.R_mono (Kd.R_far (p := ⟨gb197, 2, none⟩) (Kd.R_far (p := ⟨gb197, 1, none⟩) (Kd.R_far (p := ⟨gb197, 0, none⟩) (Kd.R_types HO189.out BK197.out (by decide)) (fun _ hk => hk.2) (.slice Ao18 t190.length co18)) (fun _ hk => hk.2) (.slice Ao20 t193.length co20)) (fun _ hk => hk.2) (.int .i64 t196)) (fun _ hk => ⟨hk.1.1.1, ⟨hk.1.1.2, hk.1.2⟩⟩)⟩
            have n2_ : Aside0 (Kd.R (Kd.int .i64) 3 (((w17.setCell ⟨gb197, 0, none⟩ (.slice Ao18 t190.length co18)).setCell ⟨gb197, 1, none⟩ (.slice Ao20 t193.length co20)).setCell ⟨gb197, 2, none⟩ (.int .i64 t196)) w.heap.size (fun k_ => some k_ ≠ (.slice Ao21 t183.length co21 : Value).ownBlock ∧ some k_ ≠ (.slice Ao22 t184.length co22 : Value).ownBlock ∧ some k_ ≠ (.slice Ao20 t193.length co20 : Value).ownBlock) (.slice Ao18 t190.length co18) t190) := ⟨by (with_reducible repeat (first | apply Kd.R_alloc | apply Kd.R_drewN | apply Kd.R_drew)); exact Kd.R_mono (Kd.R_far (p := ⟨gb197, 2, none⟩) (Kd.R_far (p := ⟨gb197, 1, none⟩) (Kd.R_far (p := ⟨gb197, 0, none⟩) (Kd.R_types HO192.out BK197.out (by decide)) (fun _ hk => hk.2) (.slice Ao18 t190.length co18)) (fun _ hk => hk.2) (.slice Ao20 t193.length co20)) (fun _ hk => hk.2) (.int .i64 t196)) (fun _ hk => ⟨hk.1.1.2, ⟨hk.1.2, hk.1.1.1⟩⟩)⟩
            have n3_ : Aside0 (Kd.R (Kd.int .i64) 3 (((w17.setCell ⟨gb197, 0, none⟩ (.slice Ao18 t190.length co18)).setCell ⟨gb197, 1, none⟩ (.slice Ao20 t193.length co20)).setCell ⟨gb197, 2, none⟩ (.int .i64 t196)) w.heap.size (fun k_ => some k_ ≠ (.slice Ao21 t183.length co21 : Value).ownBlock ∧ some k_ ≠ (.slice Ao22 t184.length co22 : Value).ownBlock ∧ some k_ ≠ (.slice Ao18 t190.length co18 : Value).ownBlock) (.slice Ao20 t193.length co20) t193) := ⟨by (with_reducible repeat (first | apply Kd.R_alloc | apply Kd.R_drewN | apply Kd.R_drew)); exact Kd.R_mono (Kd.R_far (p := ⟨gb197, 2, none⟩) (Kd.R_far (p := ⟨gb197, 1, none⟩) (Kd.R_far (p := ⟨gb197, 0, none⟩) (Kd.R_types HO195.out BK197.out (by decide)) (fun _ hk => hk.2) (.slice Ao18 t190.length co18)) (fun _ hk => hk.2) (.slice Ao20 t193.length co20)) (fun _ hk => hk.2) (.int .i64 t196)) (fun _ hk => ⟨hk.1.1.2, ⟨hk.1.2, hk.1.1.1⟩⟩)⟩
            have n4_ : Aside0 ((((w17.setCell ⟨gb197, 0, none⟩ (.slice Ao18 t190.length co18)).setCell ⟨gb197, 1, none⟩ (.slice Ao20 t193.length co20)).setCell ⟨gb197, 2, none⟩ (.int .i64 t196)).heap[gb197]? = some (.cells #[.slice Ao18 t190.length co18, .slice Ao20 t193.length co20, .int .i64 t196] 58 (0, 0))) := ⟨by (with_reducible repeat (first | refine blk_drewN ?_ _ | refine blk_drew ?_ | refine blk_alloc ?_ _)); refine blk_put (cs := #[.slice Ao18 t190.length co18, .slice Ao20 t193.length co20, .int .i64 0]) ?_ 2 _ rfl; (with_reducible repeat (first | refine blk_drewN ?_ _ | refine blk_drew ?_ | refine blk_alloc ?_ _)); refine blk_put (cs := #[.slice Ao18 t190.length co18, .slice none 0 0, .int .i64 0]) ?_ 1 _ rfl; (with_reducible repeat (first | refine blk_drewN ?_ _ | refine blk_drew ?_ | refine blk_alloc ?_ _)); refine blk_put (cs := #[.slice none 0 0, .slice none 0 0, .int .i64 0]) ?_ 0 _ rfl; (with_reducible repeat (first | refine blk_drewN ?_ _ | refine blk_drew ?_ | refine blk_alloc ?_ _)); exact BK197.out⟩
            have n5_ : Aside0 (Below w.heap.size w (((w17.setCell ⟨gb197, 0, none⟩ (.slice Ao18 t190.length co18)).setCell ⟨gb197, 1, none⟩ (.slice Ao20 t193.length co20)).setCell ⟨gb197, 2, none⟩ (.int .i64 t196))) := ⟨by repeat (first | (with_reducible first | exact HB.out | apply below_alloc | apply pw_below_drewN | apply below_drew1 | refine below_set ?_ GE197.out) | exact HB.out)⟩
            (try clear HO187)
            (try clear HO189)
            (try clear HO192)
            (try clear HO195)
            (try clear BK197)
            (try clear HB)
            generalize (((w17.setCell ⟨gb197, 0, none⟩ (.slice Ao18 t190.length co18)).setCell ⟨gb197, 1, none⟩ (.slice Ao20 t193.length co20)).setCell ⟨gb197, 2, none⟩ (.int .i64 t196)) = w23 at n0_ n1_ n2_ n3_ n4_ n5_ ⊢
            have HO187 := n0_
            have HO189 := n1_
            have HO192 := n2_
            have HO195 := n3_
            have BK197 := n4_
            have HB := n5_
            clear n0_ n1_ n2_ n3_ n4_ n5_
            (try (rw [drewN_self w23]; generalize hq_ : World.drewN w23 _ = w23; have n0_ : Aside0 (Kd.R (Kd.int .i64) 3 w23 w.heap.size (fun k_ => some k_ ≠ (.slice Ao22 t184.length co22 : Value).ownBlock ∧ some k_ ≠ (.slice Ao18 t190.length co18 : Value).ownBlock ∧ some k_ ≠ (.slice Ao20 t193.length co20 : Value).ownBlock) (.slice Ao21 t183.length co21) t183) := ⟨by rw [← hq_]; exact (by (with_reducible repeat (first | apply Kd.R_alloc | apply Kd.R_drewN | apply Kd.R_drew)); (first | exact HO187.out | exact Kd.R_mono HO187.out (fun _ _ => trivial) | exact Kd.R_mono HO187.out (fun _ hk => hk.1)))⟩; have n1_ : Aside0 (Kd.R (Kd.int .i64) 3 w23 w.heap.size (fun k_ => some k_ ≠ (.slice Ao21 t183.length co21 : Value).ownBlock ∧ some k_ ≠ (.slice Ao18 t190.length co18 : Value).ownBlock ∧ some k_ ≠ (.slice Ao20 t193.length co20 : Value).ownBlock) (.slice Ao22 t184.length co22) t184) := ⟨by rw [← hq_]; exact (by (with_reducible repeat (first | apply Kd.R_alloc | apply Kd.R_drewN | apply Kd.R_drew)); (first | exact HO189.out | exact Kd.R_mono HO189.out (fun _ _ => trivial) | exact Kd.R_mono HO189.out (fun _ hk => hk.1)))⟩; have n2_ : Aside0 (Kd.R (Kd.int .i64) 3 w23 w.heap.size (fun k_ => some k_ ≠ (.slice Ao21 t183.length co21 : Value).ownBlock ∧ some k_ ≠ (.slice Ao22 t184.length co22 : Value).ownBlock ∧ some k_ ≠ (.slice Ao20 t193.length co20 : Value).ownBlock) (.slice Ao18 t190.length co18) t190) := ⟨by rw [← hq_]; exact (by (with_reducible repeat (first | apply Kd.R_alloc | apply Kd.R_drewN | apply Kd.R_drew)); (first | exact HO192.out | exact Kd.R_mono HO192.out (fun _ _ => trivial) | exact Kd.R_mono HO192.out (fun _ hk => hk.1)))⟩; have n3_ : Aside0 (Kd.R (Kd.int .i64) 3 w23 w.heap.size (fun k_ => some k_ ≠ (.slice Ao21 t183.length co21 : Value).ownBlock ∧ some k_ ≠ (.slice Ao22 t184.length co22 : Value).ownBlock ∧ some k_ ≠ (.slice Ao18 t190.length co18 : Value).ownBlock) (.slice Ao20 t193.length co20) t193) := ⟨by rw [← hq_]; exact (by (with_reducible repeat (first | apply Kd.R_alloc | apply Kd.R_drewN | apply Kd.R_drew)); (first | exact HO195.out | exact Kd.R_mono HO195.out (fun _ _ => trivial) | exact Kd.R_mono HO195.out (fun _ hk => hk.1)))⟩; have n4_ : Aside0 (w23.heap[gb197]? = some (.cells #[.slice Ao18 t190.length co18, .slice Ao20 t193.length co20, .int .i64 t196] 58 (0, 0))) := ⟨by rw [← hq_]; exact (by (with_reducible repeat (first | refine blk_drewN ?_ _ | refine blk_drew ?_ | refine blk_alloc ?_ _)); exact BK197.out)⟩; have n5_ : Aside0 (Below w.heap.size w w23) := ⟨by rw [← hq_]; exact (by repeat (first | (with_reducible first | exact HB.out | apply below_alloc | apply pw_below_drewN | apply below_drew1 | refine below_set ?_ GE197.out) | exact HB.out))⟩; clear HO187 HO189 HO192 HO195 BK197 HB hq_; have HO187 := n0_; have HO189 := n1_; have HO192 := n2_; have HO195 := n3_; have BK197 := n4_; have HB := n5_; clear n0_ n1_ n2_ n3_ n4_ n5_))
            have n0_ := Aside0.mk (Kd.R_drew HO187.out)
            have n1_ := Aside0.mk (Kd.R_drew HO189.out)
            have n2_ := Aside0.mk (Kd.R_drew HO192.out)
            have n3_ := Aside0.mk (Kd.R_drew HO195.out)
            have n4_ := Aside0.mk (blk_drew BK197.out)
            have n5_ := Aside0.mk (below_drew1 HB.out)
            clear HO187
            clear HO189
            clear HO192
            clear HO195
            clear BK197
            clear HB
            have HO187 := n0_
            have HO189 := n1_
            have HO192 := n2_
            have HO195 := n3_
            have BK197 := n4_
            have HB := n5_
            clear n0_ n1_ n2_ n3_ n4_ n5_
            refine start_ (n := 10) (S := fun w' => w'.cell? ⟨gb197, 0, none⟩ = some (.slice Ao18 t190.length co18) ∧ w'.cell? ⟨gb197, 1, none⟩ = some (.slice Ao20 t193.length co20) ∧ w'.cell? ⟨gb197, 2, none⟩ = some (.int .i64 t196)) (ds := []) #[false, false, false, false, false, false, false, false, false, false] (by kernel_rfl) rfl rfl ⟨(blk_cell BK197.out 0).trans rfl, (blk_cell BK197.out 1).trans rfl, (blk_cell BK197.out 2).trans rfl⟩ (fun hHeld => ?_); refine with_tabW earshotlaw10_bins.tab5 earshotlaw10_bins.bits5 (fun HT_ HW_ => ?_)
            generalize w23.drew = w24 at HO187 HO189 HO192 HO195 BK197 HB hHeld ⊢
            refine pure_ (i := 0) (N := some 27) (v := ?_) (a' := ?_) #[true, false, false, false, false, false, false, false, false, false] rfl rfl (any_of HT_.out (by kernel_rfl)) (fun _ _ _ h => h) (Or.inl ⟨by rfl, ?_⟩) ?_ ?_
            rotate_left
            · intro w'
              go_simp
              with_reducible rfl
            rotate_left
            · simp only [Act.put, List.setIfInBounds_toArray, List.set_cons_zero, List.set_cons_succ, i64_w, i32_w]
              rfl
            refine pure_ (i := 1) (N := some 28) (v := ?_) (a' := ?_) #[true, true, false, false, false, false, false, false, false, false] rfl rfl (any_of HT_.out (by kernel_rfl)) (fun _ _ _ h => h) (Or.inl ⟨by rfl, ?_⟩) ?_ ?_
            rotate_left
            · intro w'
              go_simp
              with_reducible rfl
            rotate_left
            · simp only [Act.put, List.setIfInBounds_toArray, List.set_cons_zero, List.set_cons_succ, i64_w, i32_w]
              rfl
            refine pure_ (i := 3) (N := some 30) (v := ?_) (a' := ?_) #[true, true, false, true, false, false, false, false, false, false] rfl rfl (any_of HT_.out (by kernel_rfl)) (fun _ _ _ h => h) (Or.inl ⟨by rfl, ?_⟩) ?_ ?_
            rotate_left
            · intro w'
              go_simp
              with_reducible rfl
            rotate_left
            · simp only [Act.put, List.setIfInBounds_toArray, List.set_cons_zero, List.set_cons_succ, i64_w, i32_w]
              rfl
            refine pure_ (i := 5) (N := some 32) (v := ?_) (a' := ?_) #[true, true, false, true, false, true, false, false, false, false] rfl rfl (any_of HT_.out (by kernel_rfl)) (fun _ _ _ h => h) (Or.inl ⟨by rfl, ?_⟩) ?_ ?_
            rotate_left
            · intro w'
              go_simp
              with_reducible rfl
            rotate_left
            · simp only [Act.put, List.setIfInBounds_toArray, List.set_cons_zero, List.set_cons_succ, i64_w, i32_w]
              rfl
            refine take_ (i := 4) (N := some 31) (v := ?_) (a' := ?_) #[true, true, false, true, true, true, false, false, false, false] rfl rfl (take_ofW HT_.out HW_.out (by kernel_rfl)) (fun _ _ _ h => h) (Or.inl ⟨by rfl, ?_⟩) hHeld ?_ ?_
            rotate_left
            · rintro w' ⟨s0, s1, s2⟩
              go_simp
              with_reducible rfl
            rotate_left
            · simp only [Act.put, List.setIfInBounds_toArray, List.set_cons_zero, List.set_cons_succ, i64_w, i32_w]
              rfl
            refine take_ (i := 6) (N := some 33) (v := ?_) (a' := ?_) #[true, true, false, true, true, true, true, false, false, false] rfl rfl (take_ofW HT_.out HW_.out (by kernel_rfl)) (fun _ _ _ h => h) (Or.inl ⟨by rfl, ?_⟩) hHeld ?_ ?_
            rotate_left
            · rintro w' ⟨s0, s1, s2⟩
              go_simp
              with_reducible rfl
            rotate_left
            · simp only [Act.put, List.setIfInBounds_toArray, List.set_cons_zero, List.set_cons_succ, i64_w, i32_w]
              rfl
            refine one_ (i := 2) (N := some 29) #[true, true, true, true, true, true, true, false, false, false] rfl rfl (one_of HT_.out (by kernel_rfl)) (by decide) (fun K hK => ?_)
            refine goes_ Tryd.func52 (by kernel_rfl) rfl #[.slice Ao21 t183.length co21, .slice Ao22 t184.length co22] (by first | rfl | exact wanted_on rfl rfl rfl (by first | assumption | rfl | (simp [*]; done))) rfl rfl (by (try simp only [List.map_toArray, List.map_cons, List.map_nil]); first | done | rfl | (simp only [List.length_drop, List.length_take]; rfl)) ?_
            with_reducible refine (fft_Power.calls _ _ t183 _ _ t184 t200 _ ?side1 ?side2 ?side3 ?side4 A6.out).mono ?_
            (case side1 => repeat (first | exact (Kd.R_reads' HO187.out).2.2 | (with_reducible refine Kd.C_alloc ?_ _) | (with_reducible refine Kd.C_drewN ?_ _) | (with_reducible refine Kd.C_drew ?_)))
            (case side2 => exact (Kd.R_reads' HO187.out).2.1)
            (case side3 => repeat (first | exact (Kd.R_reads' HO189.out).2.2 | (with_reducible refine Kd.C_alloc ?_ _) | (with_reducible refine Kd.C_drewN ?_ _) | (with_reducible refine Kd.C_drew ?_)))
            (case side4 => exact (Kd.R_reads' HO189.out).2.1)
            rintro e w25 ⟨v201, rfl, ho0, hb⟩
            refine ⟨_, rfl, ?_⟩
            have n0_ := Aside0.mk (Kd.R_elder' (by (with_reducible repeat (first | apply Kd.R_alloc | apply Kd.R_drewN | apply Kd.R_drew)); (first | exact HO187.out | exact Kd.R_mono HO187.out (fun _ _ => trivial) | exact Kd.R_mono HO187.out (fun _ hk => hk.1))) (Kd.R_base ho0) hb)
            have n1_ := Aside0.mk (Kd.R_elder' (by (with_reducible repeat (first | apply Kd.R_alloc | apply Kd.R_drewN | apply Kd.R_drew)); (first | exact HO189.out | exact Kd.R_mono HO189.out (fun _ _ => trivial) | exact Kd.R_mono HO189.out (fun _ hk => hk.1))) (Kd.R_base ho0) hb)
            have n2_ := Aside0.mk (Kd.R_elder' (by (with_reducible repeat (first | apply Kd.R_alloc | apply Kd.R_drewN | apply Kd.R_drew)); (first | exact HO192.out | exact Kd.R_mono HO192.out (fun _ _ => trivial) | exact Kd.R_mono HO192.out (fun _ hk => hk.1))) (Kd.R_base ho0) hb)
            have n3_ := Aside0.mk (Kd.R_elder' (by (with_reducible repeat (first | apply Kd.R_alloc | apply Kd.R_drewN | apply Kd.R_drew)); (first | exact HO195.out | exact Kd.R_mono HO195.out (fun _ _ => trivial) | exact Kd.R_mono HO195.out (fun _ hk => hk.1))) (Kd.R_base ho0) hb)
            have n4_ := Aside0.mk (Kd.R_lower (Kd.R_new' (Kd.R_new' (Kd.R_new' (Kd.R_new' ho0 (Kd.R_lt (by (with_reducible repeat (first | apply Kd.R_alloc | apply Kd.R_drewN | apply Kd.R_drew)); (first | exact HO187.out | exact Kd.R_mono HO187.out (fun _ _ => trivial) | exact Kd.R_mono HO187.out (fun _ hk => hk.1))))) (Kd.R_lt (by (with_reducible repeat (first | apply Kd.R_alloc | apply Kd.R_drewN | apply Kd.R_drew)); (first | exact HO189.out | exact Kd.R_mono HO189.out (fun _ _ => trivial) | exact Kd.R_mono HO189.out (fun _ hk => hk.1))))) (Kd.R_lt (by (with_reducible repeat (first | apply Kd.R_alloc | apply Kd.R_drewN | apply Kd.R_drew)); (first | exact HO192.out | exact Kd.R_mono HO192.out (fun _ _ => trivial) | exact Kd.R_mono HO192.out (fun _ hk => hk.1))))) (Kd.R_lt (by (with_reducible repeat (first | apply Kd.R_alloc | apply Kd.R_drewN | apply Kd.R_drew)); (first | exact HO195.out | exact Kd.R_mono HO195.out (fun _ _ => trivial) | exact Kd.R_mono HO195.out (fun _ hk => hk.1))))) (below_size (by repeat (first | (with_reducible first | exact HB.out | apply below_alloc | apply pw_below_drewN | apply below_drew1 | refine below_set ?_ GE197.out) | exact HB.out))))
            have n5_ := Aside0.mk (blk_below (g := gb197) (o := .cells #[.slice Ao18 t190.length co18, .slice Ao20 t193.length co20, .int .i64 t196] 58 (0, 0)) (by (with_reducible repeat (first | refine blk_drewN ?_ _ | refine blk_drew ?_ | refine blk_alloc ?_ _)); exact BK197.out) hb)
            have n6_ := Aside0.mk (below_step (by repeat (first | (with_reducible first | exact HB.out | apply below_alloc | apply pw_below_drewN | apply below_drew1 | refine below_set ?_ GE197.out) | exact HB.out)) hb)
            clear HO187
            clear HO189
            clear HO192
            clear HO195
            clear BK197
            clear HB
            have HO187 := n0_
            have HO189 := n1_
            have HO192 := n2_
            have HO195 := n3_
            have HO202 := n4_
            have BK197 := n5_
            have HB := n6_
            clear n0_ n1_ n2_ n3_ n4_ n5_ n6_
            (try clear hb)
            (try clear hb2)
            (try clear hk)
            (try clear hi)
            (try clear ho0)
            refine hK.out _ _ ⟨(blk_cell BK197.out 0).trans rfl, (blk_cell BK197.out 1).trans rfl, (blk_cell BK197.out 2).trans rfl⟩ (fun hHeld => ?_)
            clear hK K
            refine norm_ (a' := ?_) ?_ ?_
            rotate_left
            · show Act.put _ (some 29) _ = _
              simp only [Act.put, List.setIfInBounds_toArray, List.set_cons_zero, List.set_cons_succ, i64_w, i32_w]
              rfl
            refine one_ (i := 7) (N := some 34) #[true, true, true, true, true, true, true, true, false, false] rfl rfl (one_of HT_.out (by kernel_rfl)) (by decide) (fun K hK => ?_)
            refine goes_ Tryd.func53 (by kernel_rfl) rfl #[.slice Ao18 t190.length co18, .slice Ao20 t193.length co20] (by first | rfl | exact wanted_on rfl rfl rfl (by first | assumption | rfl | (simp [*]; done))) rfl rfl (by (try simp only [List.map_toArray, List.map_cons, List.map_nil]); first | done | rfl | (simp only [List.length_drop, List.length_take]; rfl)) ?_
            with_reducible refine (earshotref10_Power.calls k _ _ t190 _ _ t193 t203 _ ?side1 ?side2 ?side3 ?side4 A7.out).mono ?_
            (case side1 => repeat (first | exact (Kd.R_reads' HO192.out).2.2 | (with_reducible refine Kd.C_alloc ?_ _) | (with_reducible refine Kd.C_drewN ?_ _) | (with_reducible refine Kd.C_drew ?_)))
            (case side2 => exact (Kd.R_reads' HO192.out).2.1)
            (case side3 => repeat (first | exact (Kd.R_reads' HO195.out).2.2 | (with_reducible refine Kd.C_alloc ?_ _) | (with_reducible refine Kd.C_drewN ?_ _) | (with_reducible refine Kd.C_drew ?_)))
            (case side4 => exact (Kd.R_reads' HO195.out).2.1)
            rintro e w26 ⟨v204, rfl, ho0, hb⟩
            refine ⟨_, rfl, ?_⟩
            have n0_ := Aside0.mk (Kd.R_elder' (by (with_reducible repeat (first | apply Kd.R_alloc | apply Kd.R_drewN | apply Kd.R_drew)); (first | exact HO187.out | exact Kd.R_mono HO187.out (fun _ _ => trivial) | exact Kd.R_mono HO187.out (fun _ hk => hk.1))) (Kd.R_base ho0) hb)
            have n1_ := Aside0.mk (Kd.R_elder' (by (with_reducible repeat (first | apply Kd.R_alloc | apply Kd.R_drewN | apply Kd.R_drew)); (first | exact HO189.out | exact Kd.R_mono HO189.out (fun _ _ => trivial) | exact Kd.R_mono HO189.out (fun _ hk => hk.1))) (Kd.R_base ho0) hb)
            have n2_ := Aside0.mk (Kd.R_elder' (by (with_reducible repeat (first | apply Kd.R_alloc | apply Kd.R_drewN | apply Kd.R_drew)); (first | exact HO192.out | exact Kd.R_mono HO192.out (fun _ _ => trivial) | exact Kd.R_mono HO192.out (fun _ hk => hk.1))) (Kd.R_base ho0) hb)
            have n3_ := Aside0.mk (Kd.R_elder' (by (with_reducible repeat (first | apply Kd.R_alloc | apply Kd.R_drewN | apply Kd.R_drew)); (first | exact HO195.out | exact Kd.R_mono HO195.out (fun _ _ => trivial) | exact Kd.R_mono HO195.out (fun _ hk => hk.1))) (Kd.R_base ho0) hb)
            have n4_ := Aside0.mk (Kd.R_elder' (by (with_reducible repeat (first | apply Kd.R_alloc | apply Kd.R_drewN | apply Kd.R_drew)); (first | exact HO202.out | exact Kd.R_mono HO202.out (fun _ _ => trivial) | exact Kd.R_mono HO202.out (fun _ hk => hk.1))) (Kd.R_base ho0) hb)
            have n5_ := Aside0.mk (Kd.R_lower (Kd.R_new' (Kd.R_new' (Kd.R_new' (Kd.R_new' (Kd.R_new' ho0 (Kd.R_lt (by (with_reducible repeat (first | apply Kd.R_alloc | apply Kd.R_drewN | apply Kd.R_drew)); (first | exact HO187.out | exact Kd.R_mono HO187.out (fun _ _ => trivial) | exact Kd.R_mono HO187.out (fun _ hk => hk.1))))) (Kd.R_lt (by (with_reducible repeat (first | apply Kd.R_alloc | apply Kd.R_drewN | apply Kd.R_drew)); (first | exact HO189.out | exact Kd.R_mono HO189.out (fun _ _ => trivial) | exact Kd.R_mono HO189.out (fun _ hk => hk.1))))) (Kd.R_lt (by (with_reducible repeat (first | apply Kd.R_alloc | apply Kd.R_drewN | apply Kd.R_drew)); (first | exact HO192.out | exact Kd.R_mono HO192.out (fun _ _ => trivial) | exact Kd.R_mono HO192.out (fun _ hk => hk.1))))) (Kd.R_lt (by (with_reducible repeat (first | apply Kd.R_alloc | apply Kd.R_drewN | apply Kd.R_drew)); (first | exact HO195.out | exact Kd.R_mono HO195.out (fun _ _ => trivial) | exact Kd.R_mono HO195.out (fun _ hk => hk.1))))) (Kd.R_lt (by (with_reducible repeat (first | apply Kd.R_alloc | apply Kd.R_drewN | apply Kd.R_drew)); (first | exact HO202.out | exact Kd.R_mono HO202.out (fun _ _ => trivial) | exact Kd.R_mono HO202.out (fun _ hk => hk.1))))) (below_size (by repeat (first | (with_reducible first | exact HB.out | apply below_alloc | apply pw_below_drewN | apply below_drew1 | refine below_set ?_ GE197.out) | exact HB.out))))
            have n6_ := Aside0.mk (blk_below (g := gb197) (o := .cells #[.slice Ao18 t190.length co18, .slice Ao20 t193.length co20, .int .i64 t196] 58 (0, 0)) (by (with_reducible repeat (first | refine blk_drewN ?_ _ | refine blk_drew ?_ | refine blk_alloc ?_ _)); exact BK197.out) hb)
            have n7_ := Aside0.mk (below_step (by repeat (first | (with_reducible first | exact HB.out | apply below_alloc | apply pw_below_drewN | apply below_drew1 | refine below_set ?_ GE197.out) | exact HB.out)) hb)
            clear HO187
            clear HO189
            clear HO192
            clear HO195
            clear HO202
            clear BK197
            clear HB
            have HO187 := n0_
            have HO189 := n1_
            have HO192 := n2_
            have HO195 := n3_
            have HO202 := n4_
            have HO205 := n5_
            have BK197 := n6_
            have HB := n7_
            clear n0_ n1_ n2_ n3_ n4_ n5_ n6_ n7_
            (try clear hb)
            (try clear hb2)
            (try clear hk)
            (try clear hi)
            (try clear ho0)
            obtain ⟨Ao27, co27, eo27⟩ := Kd.R_slice HO202.out
            (first | subst eo27 | (injection eo27 with f1_ f2_ f3_; have f4_ := f1_.symm; have f5_ := f3_.symm; clear f1_ f2_ f3_; subst f4_; subst f5_))
            obtain ⟨Ao28, co28, eo28⟩ := Kd.R_slice HO205.out
            (first | subst eo28 | (injection eo28 with f1_ f2_ f3_; have f4_ := f1_.symm; have f5_ := f3_.symm; clear f1_ f2_ f3_; subst f4_; subst f5_))
            refine hK.out _ _ ⟨(blk_cell BK197.out 0).trans rfl, (blk_cell BK197.out 1).trans rfl, (blk_cell BK197.out 2).trans rfl⟩ (fun hHeld => ?_)
            clear hK K
            refine norm_ (a' := ?_) ?_ ?_
            rotate_left
            · show Act.put _ (some 34) _ = _
              simp only [Act.put, List.setIfInBounds_toArray, List.set_cons_zero, List.set_cons_succ, i64_w, i32_w]
              rfl
            refine one_ (i := 8) (N := some 35) #[true, true, true, true, true, true, true, true, true, false] rfl rfl (one_of HT_.out (by kernel_rfl)) (by decide) (fun K hK => ?_)
            refine goes_ Tryd.func19 (by kernel_rfl) rfl #[.slice Ao27 t200.length co27, .slice Ao28 t203.length co28] (by first | rfl | exact wanted_on rfl rfl rfl (by first | assumption | rfl | (simp [*]; done))) rfl rfl (by (try simp only [List.map_toArray, List.map_cons, List.map_nil]); first | done | rfl | (simp only [List.length_drop, List.length_take]; rfl)) ?_
            with_reducible refine (earshotref04_Same.calls k _ _ t200 _ _ t203 true _ ?side1 ?side2 ?side3 ?side4 A8.out).mono ?_
            (case side1 => repeat (first | exact (Kd.R_reads' HO202.out).2.2 | (with_reducible refine Kd.C_alloc ?_ _) | (with_reducible refine Kd.C_drewN ?_ _) | (with_reducible refine Kd.C_drew ?_)))
            (case side2 => exact (Kd.R_reads' HO202.out).2.1)
            (case side3 => repeat (first | exact (Kd.R_reads' HO205.out).2.2 | (with_reducible refine Kd.C_alloc ?_ _) | (with_reducible refine Kd.C_drewN ?_ _) | (with_reducible refine Kd.C_drew ?_)))
            (case side4 => exact (Kd.R_reads' HO205.out).2.1)
            rintro e w' ⟨rfl, ⟨nd, rfl⟩⟩
            refine ⟨_, rfl, ?_⟩
            refine hK.out _ _ ⟨(blk_cell BK197.out 0).trans rfl, (blk_cell BK197.out 1).trans rfl, (blk_cell BK197.out 2).trans rfl⟩ (fun hHeld => ?_)
            clear hK K
            refine norm_ (a' := ?_) ?_ ?_
            rotate_left
            · show Act.put _ (some 35) _ = _
              simp only [Act.put, List.setIfInBounds_toArray, List.set_cons_zero, List.set_cons_succ, i64_w, i32_w]
              rfl
            refine pure_ (i := 9) (N := some 9) (v := ?_) (a' := ?_) #[true, true, true, true, true, true, true, true, true, true] rfl rfl (any_of HT_.out (by kernel_rfl)) (fun _ _ _ h => h) (Or.inl ⟨by rfl, ?_⟩) ?_ ?_
            rotate_left
            · intro w'
              go_simp
              with_reducible rfl
            rotate_left
            · simp only [Act.put, List.setIfInBounds_toArray, List.set_cons_zero, List.set_cons_succ, i64_w, i32_w]
              rfl
            refine done_ (done_of HT_.out (by kernel_rfl)) ?_
            try go_wp2_with (first | ((with_reducible refine gate_callee (f := 47) rfl ?_); refine goesL_ (some 38) rfl rfl Tryd.func47 (by kernel_rfl) rfl #[.int .i64 (l0.length : Int)] rfl (by (try simp only [List.map_toArray, List.map_cons, List.map_nil]); first | done | rfl | (simp only [List.length_drop, List.length_take]; rfl)) ?_; (with_reducible refine (earshotref10_May.calls (l0.length : Int) true _ A9.out).mono ?_); rintro e w' ⟨rfl, ⟨nd, rfl⟩⟩; refine ⟨_, rfl, ?_⟩; have hcz29_0 : w26.cell? ⟨gb197, 0, none⟩ = some (.slice Ao18 t190.length co18) := (blk_cell BK197.out 0).trans rfl; have hcz29_1 : w26.cell? ⟨gb197, 1, none⟩ = some (.slice Ao20 t193.length co20) := (blk_cell BK197.out 1).trans rfl; have hcz29_2 : w26.cell? ⟨gb197, 2, none⟩ = some (.int .i64 t196) := (blk_cell BK197.out 2).trans rfl; have hfz29_0 := blk_frozen BK197.out 0; have hfz29_1 := blk_frozen BK197.out 1; have hfz29_2 := blk_frozen BK197.out 2))
            go_ret
            exact ⟨by first | rfl | (simp [errW_none, errW_some] <;> rfl) | (simp [*, errW_none, errW_some] <;> rfl), by repeat (first | (with_reducible first | exact HB.out | apply below_alloc | apply pw_below_drewN | apply below_drew1 | refine below_set ?_ GE197.out) | exact HB.out)⟩
          · replace c14 := Bool.eq_false_iff.mpr c14
            subst c14
            have H1 : ((fft_Spins.f l0).bind fun t208 => ((fft_Sum.f 1 l0).bind fun t211 => (some ((wrap64 ((t208.length : Int) + (t211.length : Int))) == 0)))) = some r := by rw [if_neg (show ¬ (false = true) by decide)] at H; exact H
            clear H
            have H := H1
            clear H1
            replace H := Option.bind_eq_some_iff.mp H
            obtain ⟨t208, A300, H⟩ := H
            replace H : ((fft_Sum.f 1 l0).bind fun t211 => (some ((wrap64 ((t208.length : Int) + (t211.length : Int))) == 0))) = some r := H
            have A30 := Aside0.mk A300
            clear A300
            replace H := Option.bind_eq_some_iff.mp H
            obtain ⟨t211, A310, H⟩ := H
            replace H : (some ((wrap64 ((t208.length : Int) + (t211.length : Int))) == 0)) = some r := H
            have A31 := Aside0.mk A310
            clear A310
            obtain rfl := Option.some.inj H
            go_enter Tryd.func31, Tryd.ntmps31
            try go_wp2_with (first | ((with_reducible refine gate_callee (f := 29) rfl ?_); refine goesL_ (some 13) rfl rfl Tryd.func29 (by kernel_rfl) rfl #[.slice A0 l0.length c0] rfl (by (try simp only [List.map_toArray, List.map_cons, List.map_nil]); first | done | rfl | (simp only [List.length_drop, List.length_take]; rfl)) ?_; (with_reducible refine (fft_Bins.calls _ _ l0 t183 t184 t185 _ ?side1 ?side2 ?side3 A2.out).mono ?_); (case side1 => exact GlobA.below HG.out (by repeat (first | (with_reducible first | exact HB.out | apply below_alloc | apply pw_below_drewN | apply below_drew1) | exact HB.out))); (case side2 => repeat (first | exact HR0.out | (with_reducible refine Kd.C_alloc ?_ _) | (with_reducible refine Kd.C_drewN ?_ _) | (with_reducible refine Kd.C_drew ?_))); (case side3 => exact HC0.out); rintro e w32 ⟨v186, v188, rfl, ho0, ho1, hb⟩; refine ⟨_, rfl, ?_⟩; have n0_ := Aside0.mk (Kd.R_lower ho0 (below_size (by repeat (first | (with_reducible first | exact HB.out | apply below_alloc | apply pw_below_drewN | apply below_drew1) | exact HB.out)))); have n1_ := Aside0.mk (Kd.R_lower ho1 (below_size (by repeat (first | (with_reducible first | exact HB.out | apply below_alloc | apply pw_below_drewN | apply below_drew1) | exact HB.out)))); have n2_ := Aside0.mk (below_step (by repeat (first | (with_reducible first | exact HB.out | apply below_alloc | apply pw_below_drewN | apply below_drew1) | exact HB.out)) hb); clear HB; have HO187 := n0_; have HO189 := n1_; have HB := n2_; clear n0_ n1_ n2_; (try clear hb); (try clear hb2); (try clear hk); (try clear hi); (try clear ho0); (try clear ho1)) | ((with_reducible refine gate_callee (f := 51) rfl ?_); refine goesL_ (some 18) rfl rfl Tryd.func51 (by kernel_rfl) rfl #[.slice A0 l0.length c0] rfl (by (try simp only [List.map_toArray, List.map_cons, List.map_nil]); first | done | rfl | (simp only [List.length_drop, List.length_take]; rfl)) ?_; (with_reducible refine (earshotref10_Bins.calls k _ _ l0 t190 t193 t196 _ ?side1 ?side2 A3.out).mono ?_); (case side1 => repeat (first | exact (Kd.C_below HR0.out HB.out) | (with_reducible refine Kd.C_alloc ?_ _) | (with_reducible refine Kd.C_drewN ?_ _) | (with_reducible refine Kd.C_drew ?_))); (case side2 => exact HC0.out); rintro e w33 ⟨v191, v194, rfl, ho0, ho1, hb⟩; refine ⟨_, rfl, ?_⟩; have n0_ := Aside0.mk (Kd.R_mono (Kd.R_told (Kd.R_told (Kd.R_old (by (with_reducible repeat (first | apply Kd.R_alloc | apply Kd.R_drewN | apply Kd.R_drew)); (first | exact HO187.out | exact Kd.R_mono HO187.out (fun _ _ => trivial) | exact Kd.R_mono HO187.out (fun _ hk => hk.1))) hb) (Kd.R_base ho0)) (Kd.R_base ho1)) (fun _ h_ => h_.1)); have n1_ := Aside0.mk (Kd.R_mono (Kd.R_told (Kd.R_told (Kd.R_old (by (with_reducible repeat (first | apply Kd.R_alloc | apply Kd.R_drewN | apply Kd.R_drew)); (first | exact HO189.out | exact Kd.R_mono HO189.out (fun _ _ => trivial) | exact Kd.R_mono HO189.out (fun _ hk => hk.1))) hb) (Kd.R_base ho0)) (Kd.R_base ho1)) (fun _ h_ => h_.1)); have n2_ := Aside0.mk (Kd.R_lower (Kd.R_new' (Kd.R_new' ho0 (Kd.R_lt (by (with_reducible repeat (first | apply Kd.R_alloc | apply Kd.R_drewN | apply Kd.R_drew)); (first | exact HO187.out | exact Kd.R_mono HO187.out (fun _ _ => trivial) | exact Kd.R_mono HO187.out (fun _ hk => hk.1))))) (Kd.R_lt (by (with_reducible repeat (first | apply Kd.R_alloc | apply Kd.R_drewN | apply Kd.R_drew)); (first | exact HO189.out | exact Kd.R_mono HO189.out (fun _ _ => trivial) | exact Kd.R_mono HO189.out (fun _ hk => hk.1))))) (below_size (by repeat (first | (with_reducible first | exact HB.out | apply below_alloc | apply pw_below_drewN | apply below_drew1) | exact HB.out)))); have n3_ := Aside0.mk (Kd.R_lower (Kd.R_new' (Kd.R_new' ho1 (Kd.R_lt (by (with_reducible repeat (first | apply Kd.R_alloc | apply Kd.R_drewN | apply Kd.R_drew)); (first | exact HO187.out | exact Kd.R_mono HO187.out (fun _ _ => trivial) | exact Kd.R_mono HO187.out (fun _ hk => hk.1))))) (Kd.R_lt (by (with_reducible repeat (first | apply Kd.R_alloc | apply Kd.R_drewN | apply Kd.R_drew)); (first | exact HO189.out | exact Kd.R_mono HO189.out (fun _ _ => trivial) | exact Kd.R_mono HO189.out (fun _ hk => hk.1))))) (below_size (by repeat (first | (with_reducible first | exact HB.out | apply below_alloc | apply pw_below_drewN | apply below_drew1) | exact HB.out)))); have n4_ := Aside0.mk (below_step (by repeat (first | (with_reducible first | exact HB.out | apply below_alloc | apply pw_below_drewN | apply below_drew1) | exact HB.out)) hb); clear HO187; clear HO189; clear HB; have HO187 := n0_; have HO189 := n1_; have HO192 := n2_; have HO195 := n3_; have HB := n4_; clear n0_ n1_ n2_ n3_ n4_; (try clear hb); (try clear hb2); (try clear hk); (try clear hi); (try clear ho0); (try clear ho1)) | ((with_reducible refine gate_dst (N := 6) rfl ?_); (try (refine gate_guard (by rfl) ?_; dsimp only)); refine box_event ?hg (N := 6) ?hd (cs := #[.slice none 0 0, .slice none 0 0, .int .i64 0]) (t := 58) ?hr ?_; (case hd => rfl); (case hg => first | rfl | exact wanted_on rfl rfl rfl (by first | assumption | rfl | (simp [*]; done))); (case hr => first | (go_simp; done) | (go_simp; rfl)); intro gb197 hg w34 hbox hb; have n0_ := Aside0.mk (Kd.R_below (by (with_reducible repeat (first | apply Kd.R_alloc | apply Kd.R_drewN | apply Kd.R_drew)); (first | exact HO187.out | exact Kd.R_mono HO187.out (fun _ _ => trivial) | exact Kd.R_mono HO187.out (fun _ hk => hk.1))) hb); have n1_ := Aside0.mk (Kd.R_below (by (with_reducible repeat (first | apply Kd.R_alloc | apply Kd.R_drewN | apply Kd.R_drew)); (first | exact HO189.out | exact Kd.R_mono HO189.out (fun _ _ => trivial) | exact Kd.R_mono HO189.out (fun _ hk => hk.1))) hb); have n2_ := Aside0.mk (Kd.R_below (by (with_reducible repeat (first | apply Kd.R_alloc | apply Kd.R_drewN | apply Kd.R_drew)); (first | exact HO192.out | exact Kd.R_mono HO192.out (fun _ _ => trivial) | exact Kd.R_mono HO192.out (fun _ hk => hk.1))) hb); have n3_ := Aside0.mk (Kd.R_below (by (with_reducible repeat (first | apply Kd.R_alloc | apply Kd.R_drewN | apply Kd.R_drew)); (first | exact HO195.out | exact Kd.R_mono HO195.out (fun _ _ => trivial) | exact Kd.R_mono HO195.out (fun _ hk => hk.1))) hb); have n4_ := Aside0.mk (below_step (by repeat (first | (with_reducible first | exact HB.out | apply below_alloc | apply pw_below_drewN | apply below_drew1) | exact HB.out)) hb); have n5_ := Aside0.mk (hbox); have n6_ := Aside0.mk ((by rw [hg]; exact (below_size (by repeat (first | (with_reducible first | exact HB.out | apply below_alloc | apply pw_below_drewN | apply below_drew1) | exact HB.out))) : w.heap.size ≤ gb197)); have n7_ := Aside0.mk ((by rw [hg]; exact (below_size (by repeat (first | (with_reducible first | exact HB.out | apply below_alloc | apply pw_below_drewN | apply below_drew1) | exact HB.out))) : w.heap.size ≤ gb197)); clear HO187; clear HO189; clear HO192; clear HO195; clear HB; have HO187 := n0_; have HO189 := n1_; have HO192 := n2_; have HO195 := n3_; have HB := n4_; have BK197 := n5_; have GW197 := n6_; have GE197 := n7_; clear n0_ n1_ n2_ n3_ n4_ n5_ n6_ n7_; clear hb hbox hg; obtain ⟨Ao35, co35, eo35⟩ := Kd.R_slice HO192.out; subst eo35; have hcz36_0 : w34.cell? ⟨gb197, 0, none⟩ = some (.slice none 0 0) := (blk_cell BK197.out 0).trans rfl; have hcz36_1 : w34.cell? ⟨gb197, 1, none⟩ = some (.slice none 0 0) := (blk_cell BK197.out 1).trans rfl; have hcz36_2 : w34.cell? ⟨gb197, 2, none⟩ = some (.int .i64 0) := (blk_cell BK197.out 2).trans rfl; have hfz36_0 := blk_frozen BK197.out 0; have hfz36_1 := blk_frozen BK197.out 1; have hfz36_2 := blk_frozen BK197.out 2; obtain ⟨Ao37, co37, eo37⟩ := Kd.R_slice HO195.out; subst eo37; obtain ⟨Ao38, co38, eo38⟩ := Kd.R_slice HO187.out; subst eo38) | ((with_reducible refine gate_callee (f := 19) rfl ?_); refine goesL_ (some 22) rfl rfl Tryd.func19 (by kernel_rfl) rfl #[.slice Ao38 t183.length co38, .slice Ao35 t190.length co35] rfl (by (try simp only [List.map_toArray, List.map_cons, List.map_nil]); first | done | rfl | (simp only [List.length_drop, List.length_take]; rfl)) ?_; (with_reducible refine (earshotref04_Same.calls k _ _ t183 _ _ t190 true _ ?side1 ?side2 ?side3 ?side4 A4.out).mono ?_); (case side1 => refine (Kd.R_reads' (e := 3) (base := w.heap.size) (ok := fun k_ => ((some k_ ≠ (v188 : Value).ownBlock ∧ some k_ ≠ (.slice Ao35 t190.length co35 : Value).ownBlock) ∧ some k_ ≠ (.slice Ao37 t193.length co37 : Value).ownBlock)) (n := t183.length) (c := co38) ?_).2.2; exact (by (with_reducible repeat (first | apply Kd.R_alloc | apply Kd.R_drewN | apply Kd.R_drew)); exact (Kd.R_mono (Kd.R_far (p := ⟨gb197, 2, none⟩) (Kd.R_far (p := ⟨gb197, 1, none⟩) (Kd.R_far (p := ⟨gb197, 0, none⟩) (Kd.R_types HO187.out BK197.out (by decide)) (fun _ hk => hk.2) (.slice Ao35 t190.length co35)) (fun _ hk => hk.2) (.slice Ao37 t193.length co37)) (fun _ hk => hk.2) (.int .i64 t196)) (fun _ h_ => h_.1)))); (case side2 => exact (Kd.R_reads' HO187.out).2.1); (case side3 => refine (Kd.R_reads' (e := 3) (base := w.heap.size) (ok := fun k_ => ((some k_ ≠ (.slice Ao37 t193.length co37 : Value).ownBlock ∧ some k_ ≠ (.slice Ao38 t183.length co38 : Value).ownBlock) ∧ some k_ ≠ (v188 : Value).ownBlock)) (n := t190.length) (c := co35) ?_).2.2; exact (by (with_reducible repeat (first | apply Kd.R_alloc | apply Kd.R_drewN | apply Kd.R_drew)); exact (Kd.R_mono (Kd.R_far (p := ⟨gb197, 2, none⟩) (Kd.R_far (p := ⟨gb197, 1, none⟩) (Kd.R_far (p := ⟨gb197, 0, none⟩) (Kd.R_types HO192.out BK197.out (by decide)) (fun _ hk => hk.2) (.slice Ao35 t190.length co35)) (fun _ hk => hk.2) (.slice Ao37 t193.length co37)) (fun _ hk => hk.2) (.int .i64 t196)) (fun _ h_ => h_.1)))); (case side4 => exact (Kd.R_reads' HO192.out).2.1); rintro e w' ⟨rfl, ⟨nd, rfl⟩⟩; refine ⟨_, rfl, ?_⟩; obtain ⟨Ao39, co39, eo39⟩ := Kd.R_slice HO189.out; subst eo39) | ((with_reducible refine gate_callee (f := 19) rfl ?_); refine goesL_ (some 26) rfl rfl Tryd.func19 (by kernel_rfl) rfl #[.slice Ao39 t184.length co39, .slice Ao37 t193.length co37] rfl (by (try simp only [List.map_toArray, List.map_cons, List.map_nil]); first | done | rfl | (simp only [List.length_drop, List.length_take]; rfl)) ?_; (with_reducible refine (earshotref04_Same.calls k _ _ t184 _ _ t193 true _ ?side1 ?side2 ?side3 ?side4 A5.out).mono ?_); (case side1 => refine (Kd.R_reads' (e := 3) (base := w.heap.size) (ok := fun k_ => ((some k_ ≠ (.slice Ao38 t183.length co38 : Value).ownBlock ∧ some k_ ≠ (.slice Ao35 t190.length co35 : Value).ownBlock) ∧ some k_ ≠ (.slice Ao37 t193.length co37 : Value).ownBlock)) (n := t184.length) (c := co39) ?_).2.2; exact (by (with_reducible repeat (first | apply Kd.R_alloc | apply Kd.R_drewN | apply Kd.R_drew)); exact (Kd.R_mono (Kd.R_far (p := ⟨gb197, 2, none⟩) (Kd.R_far (p := ⟨gb197, 1, none⟩) (Kd.R_far (p := ⟨gb197, 0, none⟩) (Kd.R_types HO189.out BK197.out (by decide)) (fun _ hk => hk.2) (.slice Ao35 t190.length co35)) (fun _ hk => hk.2) (.slice Ao37 t193.length co37)) (fun _ hk => hk.2) (.int .i64 t196)) (fun _ h_ => h_.1)))); (case side2 => exact (Kd.R_reads' HO189.out).2.1); (case side3 => refine (Kd.R_reads' (e := 3) (base := w.heap.size) (ok := fun k_ => ((some k_ ≠ (.slice Ao35 t190.length co35 : Value).ownBlock ∧ some k_ ≠ (.slice Ao38 t183.length co38 : Value).ownBlock) ∧ some k_ ≠ (.slice Ao39 t184.length co39 : Value).ownBlock)) (n := t193.length) (c := co37) ?_).2.2; exact (by (with_reducible repeat (first | apply Kd.R_alloc | apply Kd.R_drewN | apply Kd.R_drew)); exact (Kd.R_mono (Kd.R_far (p := ⟨gb197, 2, none⟩) (Kd.R_far (p := ⟨gb197, 1, none⟩) (Kd.R_far (p := ⟨gb197, 0, none⟩) (Kd.R_types HO195.out BK197.out (by decide)) (fun _ hk => hk.2) (.slice Ao35 t190.length co35)) (fun _ hk => hk.2) (.slice Ao37 t193.length co37)) (fun _ hk => hk.2) (.int .i64 t196)) (fun _ h_ => h_.1)))); (case side4 => exact (Kd.R_reads' HO195.out).2.1); rintro e w' ⟨rfl, ⟨nd, rfl⟩⟩; refine ⟨_, rfl, ?_⟩))
            have n0_ : Aside0 (Kd.R (Kd.int .i64) 3 (((w34.setCell ⟨gb197, 0, none⟩ (.slice Ao35 t190.length co35)).setCell ⟨gb197, 1, none⟩ (.slice Ao37 t193.length co37)).setCell ⟨gb197, 2, none⟩ (.int .i64 t196)) w.heap.size (fun k_ => some k_ ≠ (.slice Ao39 t184.length co39 : Value).ownBlock ∧ some k_ ≠ (.slice Ao35 t190.length co35 : Value).ownBlock ∧ some k_ ≠ (.slice Ao37 t193.length co37 : Value).ownBlock) (.slice Ao38 t183.length co38) t183) := ⟨by (with_reducible repeat (first | apply Kd.R_alloc | apply Kd.R_drewN | apply Kd.R_drew)); exact Kd.R_mono (Kd.R_far (p := ⟨gb197, 2, none⟩) (Kd.R_far (p := ⟨gb197, 1, none⟩) (Kd.R_far (p := ⟨gb197, 0, none⟩) (Kd.R_types HO187.out BK197.out (by decide)) (fun _ hk => hk.2) (.slice Ao35 t190.length co35)) (fun _ hk => hk.2) (.slice Ao37 t193.length co37)) (fun _ hk => hk.2) (.int .i64 t196)) (fun _ hk => ⟨hk.1.1.1, ⟨hk.1.1.2, hk.1.2⟩⟩)⟩
            have n1_ : Aside0 (Kd.R (Kd.int .i64) 3 (((w34.setCell ⟨gb197, 0, none⟩ (.slice Ao35 t190.length co35)).setCell ⟨gb197, 1, none⟩ (.slice Ao37 t193.length co37)).setCell ⟨gb197, 2, none⟩ (.int .i64 t196)) w.heap.size (fun k_ => some k_ ≠ (.slice Ao38 t183.length co38 : Value).ownBlock ∧ some k_ ≠ (.slice Ao35 t190.length co35 : Value).ownBlock ∧ some k_ ≠ (.slice Ao37 t193.length co37 : Value).ownBlock) (.slice Ao39 t184.length co39) t184) := ⟨by (with_reducible repeat (first | apply Kd.R_alloc | apply Kd.R_drewN | apply Kd.R_drew)); exact Kd.R_mono (Kd.R_far (p := ⟨gb197, 2, none⟩) (Kd.R_far (p := ⟨gb197, 1, none⟩) (Kd.R_far (p := ⟨gb197, 0, none⟩) (Kd.R_types HO189.out BK197.out (by decide)) (fun _ hk => hk.2) (.slice Ao35 t190.length co35)) (fun _ hk => hk.2) (.slice Ao37 t193.length co37)) (fun _ hk => hk.2) (.int .i64 t196)) (fun _ hk => ⟨hk.1.1.1, ⟨hk.1.1.2, hk.1.2⟩⟩)⟩
            have n2_ : Aside0 (Kd.R (Kd.int .i64) 3 (((w34.setCell ⟨gb197, 0, none⟩ (.slice Ao35 t190.length co35)).setCell ⟨gb197, 1, none⟩ (.slice Ao37 t193.length co37)).setCell ⟨gb197, 2, none⟩ (.int .i64 t196)) w.heap.size (fun k_ => some k_ ≠ (.slice Ao38 t183.length co38 : Value).ownBlock ∧ some k_ ≠ (.slice Ao39 t184.length co39 : Value).ownBlock ∧ some k_ ≠ (.slice Ao37 t193.length co37 : Value).ownBlock) (.slice Ao35 t190.length co35) t190) := ⟨by (with_reducible repeat (first | apply Kd.R_alloc | apply Kd.R_drewN | apply Kd.R_drew)); exact Kd.R_mono (Kd.R_far (p := ⟨gb197, 2, none⟩) (Kd.R_far (p := ⟨gb197, 1, none⟩) (Kd.R_far (p := ⟨gb197, 0, none⟩) (Kd.R_types HO192.out BK197.out (by decide)) (fun _ hk => hk.2) (.slice Ao35 t190.length co35)) (fun _ hk => hk.2) (.slice Ao37 t193.length co37)) (fun _ hk => hk.2) (.int .i64 t196)) (fun _ hk => ⟨hk.1.1.2, ⟨hk.1.2, hk.1.1.1⟩⟩)⟩
            have n3_ : Aside0 (Kd.R (Kd.int .i64) 3 (((w34.setCell ⟨gb197, 0, none⟩ (.slice Ao35 t190.length co35)).setCell ⟨gb197, 1, none⟩ (.slice Ao37 t193.length co37)).setCell ⟨gb197, 2, none⟩ (.int .i64 t196)) w.heap.size (fun k_ => some k_ ≠ (.slice Ao38 t183.length co38 : Value).ownBlock ∧ some k_ ≠ (.slice Ao39 t184.length co39 : Value).ownBlock ∧ some k_ ≠ (.slice Ao35 t190.length co35 : Value).ownBlock) (.slice Ao37 t193.length co37) t193) := ⟨by (with_reducible repeat (first | apply Kd.R_alloc | apply Kd.R_drewN | apply Kd.R_drew)); exact Kd.R_mono (Kd.R_far (p := ⟨gb197, 2, none⟩) (Kd.R_far (p := ⟨gb197, 1, none⟩) (Kd.R_far (p := ⟨gb197, 0, none⟩) (Kd.R_types HO195.out BK197.out (by decide)) (fun _ hk => hk.2) (.slice Ao35 t190.length co35)) (fun _ hk => hk.2) (.slice Ao37 t193.length co37)) (fun _ hk => hk.2) (.int .i64 t196)) (fun _ hk => ⟨hk.1.1.2, ⟨hk.1.2, hk.1.1.1⟩⟩)⟩
            have n4_ : Aside0 ((((w34.setCell ⟨gb197, 0, none⟩ (.slice Ao35 t190.length co35)).setCell ⟨gb197, 1, none⟩ (.slice Ao37 t193.length co37)).setCell ⟨gb197, 2, none⟩ (.int .i64 t196)).heap[gb197]? = some (.cells #[.slice Ao35 t190.length co35, .slice Ao37 t193.length co37, .int .i64 t196] 58 (0, 0))) := ⟨by (with_reducible repeat (first | refine blk_drewN ?_ _ | refine blk_drew ?_ | refine blk_alloc ?_ _)); refine blk_put (cs := #[.slice Ao35 t190.length co35, .slice Ao37 t193.length co37, .int .i64 0]) ?_ 2 _ rfl; (with_reducible repeat (first | refine blk_drewN ?_ _ | refine blk_drew ?_ | refine blk_alloc ?_ _)); refine blk_put (cs := #[.slice Ao35 t190.length co35, .slice none 0 0, .int .i64 0]) ?_ 1 _ rfl; (with_reducible repeat (first | refine blk_drewN ?_ _ | refine blk_drew ?_ | refine blk_alloc ?_ _)); refine blk_put (cs := #[.slice none 0 0, .slice none 0 0, .int .i64 0]) ?_ 0 _ rfl; (with_reducible repeat (first | refine blk_drewN ?_ _ | refine blk_drew ?_ | refine blk_alloc ?_ _)); exact BK197.out⟩
            have n5_ : Aside0 (Below w.heap.size w (((w34.setCell ⟨gb197, 0, none⟩ (.slice Ao35 t190.length co35)).setCell ⟨gb197, 1, none⟩ (.slice Ao37 t193.length co37)).setCell ⟨gb197, 2, none⟩ (.int .i64 t196))) := ⟨by repeat (first | (with_reducible first | exact HB.out | apply below_alloc | apply pw_below_drewN | apply below_drew1 | refine below_set ?_ GE197.out) | exact HB.out)⟩
            (try clear HO187)
            (try clear HO189)
            (try clear HO192)
            (try clear HO195)
            (try clear BK197)
            (try clear HB)
            generalize (((w34.setCell ⟨gb197, 0, none⟩ (.slice Ao35 t190.length co35)).setCell ⟨gb197, 1, none⟩ (.slice Ao37 t193.length co37)).setCell ⟨gb197, 2, none⟩ (.int .i64 t196)) = w40 at n0_ n1_ n2_ n3_ n4_ n5_ ⊢
            have HO187 := n0_
            have HO189 := n1_
            have HO192 := n2_
            have HO195 := n3_
            have BK197 := n4_
            have HB := n5_
            clear n0_ n1_ n2_ n3_ n4_ n5_
            (try (rw [drewN_self w40]; generalize hq_ : World.drewN w40 _ = w40; have n0_ : Aside0 (Kd.R (Kd.int .i64) 3 w40 w.heap.size (fun k_ => some k_ ≠ (.slice Ao39 t184.length co39 : Value).ownBlock ∧ some k_ ≠ (.slice Ao35 t190.length co35 : Value).ownBlock ∧ some k_ ≠ (.slice Ao37 t193.length co37 : Value).ownBlock) (.slice Ao38 t183.length co38) t183) := ⟨by rw [← hq_]; exact (by (with_reducible repeat (first | apply Kd.R_alloc | apply Kd.R_drewN | apply Kd.R_drew)); (first | exact HO187.out | exact Kd.R_mono HO187.out (fun _ _ => trivial) | exact Kd.R_mono HO187.out (fun _ hk => hk.1)))⟩; have n1_ : Aside0 (Kd.R (Kd.int .i64) 3 w40 w.heap.size (fun k_ => some k_ ≠ (.slice Ao38 t183.length co38 : Value).ownBlock ∧ some k_ ≠ (.slice Ao35 t190.length co35 : Value).ownBlock ∧ some k_ ≠ (.slice Ao37 t193.length co37 : Value).ownBlock) (.slice Ao39 t184.length co39) t184) := ⟨by rw [← hq_]; exact (by (with_reducible repeat (first | apply Kd.R_alloc | apply Kd.R_drewN | apply Kd.R_drew)); (first | exact HO189.out | exact Kd.R_mono HO189.out (fun _ _ => trivial) | exact Kd.R_mono HO189.out (fun _ hk => hk.1)))⟩; have n2_ : Aside0 (Kd.R (Kd.int .i64) 3 w40 w.heap.size (fun k_ => some k_ ≠ (.slice Ao38 t183.length co38 : Value).ownBlock ∧ some k_ ≠ (.slice Ao39 t184.length co39 : Value).ownBlock ∧ some k_ ≠ (.slice Ao37 t193.length co37 : Value).ownBlock) (.slice Ao35 t190.length co35) t190) := ⟨by rw [← hq_]; exact (by (with_reducible repeat (first | apply Kd.R_alloc | apply Kd.R_drewN | apply Kd.R_drew)); (first | exact HO192.out | exact Kd.R_mono HO192.out (fun _ _ => trivial) | exact Kd.R_mono HO192.out (fun _ hk => hk.1)))⟩; have n3_ : Aside0 (Kd.R (Kd.int .i64) 3 w40 w.heap.size (fun k_ => some k_ ≠ (.slice Ao38 t183.length co38 : Value).ownBlock ∧ some k_ ≠ (.slice Ao39 t184.length co39 : Value).ownBlock ∧ some k_ ≠ (.slice Ao35 t190.length co35 : Value).ownBlock) (.slice Ao37 t193.length co37) t193) := ⟨by rw [← hq_]; exact (by (with_reducible repeat (first | apply Kd.R_alloc | apply Kd.R_drewN | apply Kd.R_drew)); (first | exact HO195.out | exact Kd.R_mono HO195.out (fun _ _ => trivial) | exact Kd.R_mono HO195.out (fun _ hk => hk.1)))⟩; have n4_ : Aside0 (w40.heap[gb197]? = some (.cells #[.slice Ao35 t190.length co35, .slice Ao37 t193.length co37, .int .i64 t196] 58 (0, 0))) := ⟨by rw [← hq_]; exact (by (with_reducible repeat (first | refine blk_drewN ?_ _ | refine blk_drew ?_ | refine blk_alloc ?_ _)); exact BK197.out)⟩; have n5_ : Aside0 (Below w.heap.size w w40) := ⟨by rw [← hq_]; exact (by repeat (first | (with_reducible first | exact HB.out | apply below_alloc | apply pw_below_drewN | apply below_drew1 | refine below_set ?_ GE197.out) | exact HB.out))⟩; clear HO187 HO189 HO192 HO195 BK197 HB hq_; have HO187 := n0_; have HO189 := n1_; have HO192 := n2_; have HO195 := n3_; have BK197 := n4_; have HB := n5_; clear n0_ n1_ n2_ n3_ n4_ n5_))
            have n0_ := Aside0.mk (Kd.R_drew HO187.out)
            have n1_ := Aside0.mk (Kd.R_drew HO189.out)
            have n2_ := Aside0.mk (Kd.R_drew HO192.out)
            have n3_ := Aside0.mk (Kd.R_drew HO195.out)
            have n4_ := Aside0.mk (blk_drew BK197.out)
            have n5_ := Aside0.mk (below_drew1 HB.out)
            clear HO187
            clear HO189
            clear HO192
            clear HO195
            clear BK197
            clear HB
            have HO187 := n0_
            have HO189 := n1_
            have HO192 := n2_
            have HO195 := n3_
            have BK197 := n4_
            have HB := n5_
            clear n0_ n1_ n2_ n3_ n4_ n5_
            refine start_ (n := 10) (S := fun w' => w'.cell? ⟨gb197, 0, none⟩ = some (.slice Ao35 t190.length co35) ∧ w'.cell? ⟨gb197, 1, none⟩ = some (.slice Ao37 t193.length co37) ∧ w'.cell? ⟨gb197, 2, none⟩ = some (.int .i64 t196)) (ds := []) #[false, false, false, false, false, false, false, false, false, false] (by kernel_rfl) rfl rfl ⟨(blk_cell BK197.out 0).trans rfl, (blk_cell BK197.out 1).trans rfl, (blk_cell BK197.out 2).trans rfl⟩ (fun hHeld => ?_); refine with_tabW earshotlaw10_bins.tab5 earshotlaw10_bins.bits5 (fun HT_ HW_ => ?_)
            generalize w40.drew = w41 at HO187 HO189 HO192 HO195 BK197 HB hHeld ⊢
            refine pure_ (i := 0) (N := some 27) (v := ?_) (a' := ?_) #[true, false, false, false, false, false, false, false, false, false] rfl rfl (any_of HT_.out (by kernel_rfl)) (fun _ _ _ h => h) (Or.inl ⟨by rfl, ?_⟩) ?_ ?_
            rotate_left
            · intro w'
              go_simp
              with_reducible rfl
            rotate_left
            · simp only [Act.put, List.setIfInBounds_toArray, List.set_cons_zero, List.set_cons_succ, i64_w, i32_w]
              rfl
            refine pure_ (i := 1) (N := some 28) (v := ?_) (a' := ?_) #[true, true, false, false, false, false, false, false, false, false] rfl rfl (any_of HT_.out (by kernel_rfl)) (fun _ _ _ h => h) (Or.inl ⟨by rfl, ?_⟩) ?_ ?_
            rotate_left
            · intro w'
              go_simp
              with_reducible rfl
            rotate_left
            · simp only [Act.put, List.setIfInBounds_toArray, List.set_cons_zero, List.set_cons_succ, i64_w, i32_w]
              rfl
            refine pure_ (i := 3) (N := some 30) (v := ?_) (a' := ?_) #[true, true, false, true, false, false, false, false, false, false] rfl rfl (any_of HT_.out (by kernel_rfl)) (fun _ _ _ h => h) (Or.inl ⟨by rfl, ?_⟩) ?_ ?_
            rotate_left
            · intro w'
              go_simp
              with_reducible rfl
            rotate_left
            · simp only [Act.put, List.setIfInBounds_toArray, List.set_cons_zero, List.set_cons_succ, i64_w, i32_w]
              rfl
            refine pure_ (i := 5) (N := some 32) (v := ?_) (a' := ?_) #[true, true, false, true, false, true, false, false, false, false] rfl rfl (any_of HT_.out (by kernel_rfl)) (fun _ _ _ h => h) (Or.inl ⟨by rfl, ?_⟩) ?_ ?_
            rotate_left
            · intro w'
              go_simp
              with_reducible rfl
            rotate_left
            · simp only [Act.put, List.setIfInBounds_toArray, List.set_cons_zero, List.set_cons_succ, i64_w, i32_w]
              rfl
            refine take_ (i := 4) (N := some 31) (v := ?_) (a' := ?_) #[true, true, false, true, true, true, false, false, false, false] rfl rfl (take_ofW HT_.out HW_.out (by kernel_rfl)) (fun _ _ _ h => h) (Or.inl ⟨by rfl, ?_⟩) hHeld ?_ ?_
            rotate_left
            · rintro w' ⟨s0, s1, s2⟩
              go_simp
              with_reducible rfl
            rotate_left
            · simp only [Act.put, List.setIfInBounds_toArray, List.set_cons_zero, List.set_cons_succ, i64_w, i32_w]
              rfl
            refine take_ (i := 6) (N := some 33) (v := ?_) (a' := ?_) #[true, true, false, true, true, true, true, false, false, false] rfl rfl (take_ofW HT_.out HW_.out (by kernel_rfl)) (fun _ _ _ h => h) (Or.inl ⟨by rfl, ?_⟩) hHeld ?_ ?_
            rotate_left
            · rintro w' ⟨s0, s1, s2⟩
              go_simp
              with_reducible rfl
            rotate_left
            · simp only [Act.put, List.setIfInBounds_toArray, List.set_cons_zero, List.set_cons_succ, i64_w, i32_w]
              rfl
            refine one_ (i := 2) (N := some 29) #[true, true, true, true, true, true, true, false, false, false] rfl rfl (one_of HT_.out (by kernel_rfl)) (by decide) (fun K hK => ?_)
            refine goes_ Tryd.func52 (by kernel_rfl) rfl #[.slice Ao38 t183.length co38, .slice Ao39 t184.length co39] (by first | rfl | exact wanted_on rfl rfl rfl (by first | assumption | rfl | (simp [*]; done))) rfl rfl (by (try simp only [List.map_toArray, List.map_cons, List.map_nil]); first | done | rfl | (simp only [List.length_drop, List.length_take]; rfl)) ?_
            with_reducible refine (fft_Power.calls _ _ t183 _ _ t184 t200 _ ?side1 ?side2 ?side3 ?side4 A6.out).mono ?_
            (case side1 => repeat (first | exact (Kd.R_reads' HO187.out).2.2 | (with_reducible refine Kd.C_alloc ?_ _) | (with_reducible refine Kd.C_drewN ?_ _) | (with_reducible refine Kd.C_drew ?_)))
            (case side2 => exact (Kd.R_reads' HO187.out).2.1)
            (case side3 => repeat (first | exact (Kd.R_reads' HO189.out).2.2 | (with_reducible refine Kd.C_alloc ?_ _) | (with_reducible refine Kd.C_drewN ?_ _) | (with_reducible refine Kd.C_drew ?_)))
            (case side4 => exact (Kd.R_reads' HO189.out).2.1)
            rintro e w42 ⟨v201, rfl, ho0, hb⟩
            refine ⟨_, rfl, ?_⟩
            have n0_ := Aside0.mk (Kd.R_elder' (by (with_reducible repeat (first | apply Kd.R_alloc | apply Kd.R_drewN | apply Kd.R_drew)); (first | exact HO187.out | exact Kd.R_mono HO187.out (fun _ _ => trivial) | exact Kd.R_mono HO187.out (fun _ hk => hk.1))) (Kd.R_base ho0) hb)
            have n1_ := Aside0.mk (Kd.R_elder' (by (with_reducible repeat (first | apply Kd.R_alloc | apply Kd.R_drewN | apply Kd.R_drew)); (first | exact HO189.out | exact Kd.R_mono HO189.out (fun _ _ => trivial) | exact Kd.R_mono HO189.out (fun _ hk => hk.1))) (Kd.R_base ho0) hb)
            have n2_ := Aside0.mk (Kd.R_elder' (by (with_reducible repeat (first | apply Kd.R_alloc | apply Kd.R_drewN | apply Kd.R_drew)); (first | exact HO192.out | exact Kd.R_mono HO192.out (fun _ _ => trivial) | exact Kd.R_mono HO192.out (fun _ hk => hk.1))) (Kd.R_base ho0) hb)
            have n3_ := Aside0.mk (Kd.R_elder' (by (with_reducible repeat (first | apply Kd.R_alloc | apply Kd.R_drewN | apply Kd.R_drew)); (first | exact HO195.out | exact Kd.R_mono HO195.out (fun _ _ => trivial) | exact Kd.R_mono HO195.out (fun _ hk => hk.1))) (Kd.R_base ho0) hb)
            have n4_ := Aside0.mk (Kd.R_lower (Kd.R_new' (Kd.R_new' (Kd.R_new' (Kd.R_new' ho0 (Kd.R_lt (by (with_reducible repeat (first | apply Kd.R_alloc | apply Kd.R_drewN | apply Kd.R_drew)); (first | exact HO187.out | exact Kd.R_mono HO187.out (fun _ _ => trivial) | exact Kd.R_mono HO187.out (fun _ hk => hk.1))))) (Kd.R_lt (by (with_reducible repeat (first | apply Kd.R_alloc | apply Kd.R_drewN | apply Kd.R_drew)); (first | exact HO189.out | exact Kd.R_mono HO189.out (fun _ _ => trivial) | exact Kd.R_mono HO189.out (fun _ hk => hk.1))))) (Kd.R_lt (by (with_reducible repeat (first | apply Kd.R_alloc | apply Kd.R_drewN | apply Kd.R_drew)); (first | exact HO192.out | exact Kd.R_mono HO192.out (fun _ _ => trivial) | exact Kd.R_mono HO192.out (fun _ hk => hk.1))))) (Kd.R_lt (by (with_reducible repeat (first | apply Kd.R_alloc | apply Kd.R_drewN | apply Kd.R_drew)); (first | exact HO195.out | exact Kd.R_mono HO195.out (fun _ _ => trivial) | exact Kd.R_mono HO195.out (fun _ hk => hk.1))))) (below_size (by repeat (first | (with_reducible first | exact HB.out | apply below_alloc | apply pw_below_drewN | apply below_drew1 | refine below_set ?_ GE197.out) | exact HB.out))))
            have n5_ := Aside0.mk (blk_below (g := gb197) (o := .cells #[.slice Ao35 t190.length co35, .slice Ao37 t193.length co37, .int .i64 t196] 58 (0, 0)) (by (with_reducible repeat (first | refine blk_drewN ?_ _ | refine blk_drew ?_ | refine blk_alloc ?_ _)); exact BK197.out) hb)
            have n6_ := Aside0.mk (below_step (by repeat (first | (with_reducible first | exact HB.out | apply below_alloc | apply pw_below_drewN | apply below_drew1 | refine below_set ?_ GE197.out) | exact HB.out)) hb)
            clear HO187
            clear HO189
            clear HO192
            clear HO195
            clear BK197
            clear HB
            have HO187 := n0_
            have HO189 := n1_
            have HO192 := n2_
            have HO195 := n3_
            have HO202 := n4_
            have BK197 := n5_
            have HB := n6_
            clear n0_ n1_ n2_ n3_ n4_ n5_ n6_
            (try clear hb)
            (try clear hb2)
            (try clear hk)
            (try clear hi)
            (try clear ho0)
            refine hK.out _ _ ⟨(blk_cell BK197.out 0).trans rfl, (blk_cell BK197.out 1).trans rfl, (blk_cell BK197.out 2).trans rfl⟩ (fun hHeld => ?_)
            clear hK K
            refine norm_ (a' := ?_) ?_ ?_
            rotate_left
            · show Act.put _ (some 29) _ = _
              simp only [Act.put, List.setIfInBounds_toArray, List.set_cons_zero, List.set_cons_succ, i64_w, i32_w]
              rfl
            refine one_ (i := 7) (N := some 34) #[true, true, true, true, true, true, true, true, false, false] rfl rfl (one_of HT_.out (by kernel_rfl)) (by decide) (fun K hK => ?_)
            refine goes_ Tryd.func53 (by kernel_rfl) rfl #[.slice Ao35 t190.length co35, .slice Ao37 t193.length co37] (by first | rfl | exact wanted_on rfl rfl rfl (by first | assumption | rfl | (simp [*]; done))) rfl rfl (by (try simp only [List.map_toArray, List.map_cons, List.map_nil]); first | done | rfl | (simp only [List.length_drop, List.length_take]; rfl)) ?_
            with_reducible refine (earshotref10_Power.calls k _ _ t190 _ _ t193 t203 _ ?side1 ?side2 ?side3 ?side4 A7.out).mono ?_
            (case side1 => repeat (first | exact (Kd.R_reads' HO192.out).2.2 | (with_reducible refine Kd.C_alloc ?_ _) | (with_reducible refine Kd.C_drewN ?_ _) | (with_reducible refine Kd.C_drew ?_)))
            (case side2 => exact (Kd.R_reads' HO192.out).2.1)
            (case side3 => repeat (first | exact (Kd.R_reads' HO195.out).2.2 | (with_reducible refine Kd.C_alloc ?_ _) | (with_reducible refine Kd.C_drewN ?_ _) | (with_reducible refine Kd.C_drew ?_)))
            (case side4 => exact (Kd.R_reads' HO195.out).2.1)
            rintro e w43 ⟨v204, rfl, ho0, hb⟩
            refine ⟨_, rfl, ?_⟩
            have n0_ := Aside0.mk (Kd.R_elder' (by (with_reducible repeat (first | apply Kd.R_alloc | apply Kd.R_drewN | apply Kd.R_drew)); (first | exact HO187.out | exact Kd.R_mono HO187.out (fun _ _ => trivial) | exact Kd.R_mono HO187.out (fun _ hk => hk.1))) (Kd.R_base ho0) hb)
            have n1_ := Aside0.mk (Kd.R_elder' (by (with_reducible repeat (first | apply Kd.R_alloc | apply Kd.R_drewN | apply Kd.R_drew)); (first | exact HO189.out | exact Kd.R_mono HO189.out (fun _ _ => trivial) | exact Kd.R_mono HO189.out (fun _ hk => hk.1))) (Kd.R_base ho0) hb)
            have n2_ := Aside0.mk (Kd.R_elder' (by (with_reducible repeat (first | apply Kd.R_alloc | apply Kd.R_drewN | apply Kd.R_drew)); (first | exact HO192.out | exact Kd.R_mono HO192.out (fun _ _ => trivial) | exact Kd.R_mono HO192.out (fun _ hk => hk.1))) (Kd.R_base ho0) hb)
            have n3_ := Aside0.mk (Kd.R_elder' (by (with_reducible repeat (first | apply Kd.R_alloc | apply Kd.R_drewN | apply Kd.R_drew)); (first | exact HO195.out | exact Kd.R_mono HO195.out (fun _ _ => trivial) | exact Kd.R_mono HO195.out (fun _ hk => hk.1))) (Kd.R_base ho0) hb)
            have n4_ := Aside0.mk (Kd.R_elder' (by (with_reducible repeat (first | apply Kd.R_alloc | apply Kd.R_drewN | apply Kd.R_drew)); (first | exact HO202.out | exact Kd.R_mono HO202.out (fun _ _ => trivial) | exact Kd.R_mono HO202.out (fun _ hk => hk.1))) (Kd.R_base ho0) hb)
            have n5_ := Aside0.mk (Kd.R_lower (Kd.R_new' (Kd.R_new' (Kd.R_new' (Kd.R_new' (Kd.R_new' ho0 (Kd.R_lt (by (with_reducible repeat (first | apply Kd.R_alloc | apply Kd.R_drewN | apply Kd.R_drew)); (first | exact HO187.out | exact Kd.R_mono HO187.out (fun _ _ => trivial) | exact Kd.R_mono HO187.out (fun _ hk => hk.1))))) (Kd.R_lt (by (with_reducible repeat (first | apply Kd.R_alloc | apply Kd.R_drewN | apply Kd.R_drew)); (first | exact HO189.out | exact Kd.R_mono HO189.out (fun _ _ => trivial) | exact Kd.R_mono HO189.out (fun _ hk => hk.1))))) (Kd.R_lt (by (with_reducible repeat (first | apply Kd.R_alloc | apply Kd.R_drewN | apply Kd.R_drew)); (first | exact HO192.out | exact Kd.R_mono HO192.out (fun _ _ => trivial) | exact Kd.R_mono HO192.out (fun _ hk => hk.1))))) (Kd.R_lt (by (with_reducible repeat (first | apply Kd.R_alloc | apply Kd.R_drewN | apply Kd.R_drew)); (first | exact HO195.out | exact Kd.R_mono HO195.out (fun _ _ => trivial) | exact Kd.R_mono HO195.out (fun _ hk => hk.1))))) (Kd.R_lt (by (with_reducible repeat (first | apply Kd.R_alloc | apply Kd.R_drewN | apply Kd.R_drew)); (first | exact HO202.out | exact Kd.R_mono HO202.out (fun _ _ => trivial) | exact Kd.R_mono HO202.out (fun _ hk => hk.1))))) (below_size (by repeat (first | (with_reducible first | exact HB.out | apply below_alloc | apply pw_below_drewN | apply below_drew1 | refine below_set ?_ GE197.out) | exact HB.out))))
            have n6_ := Aside0.mk (blk_below (g := gb197) (o := .cells #[.slice Ao35 t190.length co35, .slice Ao37 t193.length co37, .int .i64 t196] 58 (0, 0)) (by (with_reducible repeat (first | refine blk_drewN ?_ _ | refine blk_drew ?_ | refine blk_alloc ?_ _)); exact BK197.out) hb)
            have n7_ := Aside0.mk (below_step (by repeat (first | (with_reducible first | exact HB.out | apply below_alloc | apply pw_below_drewN | apply below_drew1 | refine below_set ?_ GE197.out) | exact HB.out)) hb)
            clear HO187
            clear HO189
            clear HO192
            clear HO195
            clear HO202
            clear BK197
            clear HB
            have HO187 := n0_
            have HO189 := n1_
            have HO192 := n2_
            have HO195 := n3_
            have HO202 := n4_
            have HO205 := n5_
            have BK197 := n6_
            have HB := n7_
            clear n0_ n1_ n2_ n3_ n4_ n5_ n6_ n7_
            (try clear hb)
            (try clear hb2)
            (try clear hk)
            (try clear hi)
            (try clear ho0)
            obtain ⟨Ao44, co44, eo44⟩ := Kd.R_slice HO202.out
            (first | subst eo44 | (injection eo44 with f1_ f2_ f3_; have f4_ := f1_.symm; have f5_ := f3_.symm; clear f1_ f2_ f3_; subst f4_; subst f5_))
            obtain ⟨Ao45, co45, eo45⟩ := Kd.R_slice HO205.out
            (first | subst eo45 | (injection eo45 with f1_ f2_ f3_; have f4_ := f1_.symm; have f5_ := f3_.symm; clear f1_ f2_ f3_; subst f4_; subst f5_))
            refine hK.out _ _ ⟨(blk_cell BK197.out 0).trans rfl, (blk_cell BK197.out 1).trans rfl, (blk_cell BK197.out 2).trans rfl⟩ (fun hHeld => ?_)
            clear hK K
            refine norm_ (a' := ?_) ?_ ?_
            rotate_left
            · show Act.put _ (some 34) _ = _
              simp only [Act.put, List.setIfInBounds_toArray, List.set_cons_zero, List.set_cons_succ, i64_w, i32_w]
              rfl
            refine one_ (i := 8) (N := some 35) #[true, true, true, true, true, true, true, true, true, false] rfl rfl (one_of HT_.out (by kernel_rfl)) (by decide) (fun K hK => ?_)
            refine goes_ Tryd.func19 (by kernel_rfl) rfl #[.slice Ao44 t200.length co44, .slice Ao45 t203.length co45] (by first | rfl | exact wanted_on rfl rfl rfl (by first | assumption | rfl | (simp [*]; done))) rfl rfl (by (try simp only [List.map_toArray, List.map_cons, List.map_nil]); first | done | rfl | (simp only [List.length_drop, List.length_take]; rfl)) ?_
            with_reducible refine (earshotref04_Same.calls k _ _ t200 _ _ t203 true _ ?side1 ?side2 ?side3 ?side4 A8.out).mono ?_
            (case side1 => repeat (first | exact (Kd.R_reads' HO202.out).2.2 | (with_reducible refine Kd.C_alloc ?_ _) | (with_reducible refine Kd.C_drewN ?_ _) | (with_reducible refine Kd.C_drew ?_)))
            (case side2 => exact (Kd.R_reads' HO202.out).2.1)
            (case side3 => repeat (first | exact (Kd.R_reads' HO205.out).2.2 | (with_reducible refine Kd.C_alloc ?_ _) | (with_reducible refine Kd.C_drewN ?_ _) | (with_reducible refine Kd.C_drew ?_)))
            (case side4 => exact (Kd.R_reads' HO205.out).2.1)
            rintro e w' ⟨rfl, ⟨nd, rfl⟩⟩
            refine ⟨_, rfl, ?_⟩
            refine hK.out _ _ ⟨(blk_cell BK197.out 0).trans rfl, (blk_cell BK197.out 1).trans rfl, (blk_cell BK197.out 2).trans rfl⟩ (fun hHeld => ?_)
            clear hK K
            refine norm_ (a' := ?_) ?_ ?_
            rotate_left
            · show Act.put _ (some 35) _ = _
              simp only [Act.put, List.setIfInBounds_toArray, List.set_cons_zero, List.set_cons_succ, i64_w, i32_w]
              rfl
            refine pure_ (i := 9) (N := some 9) (v := ?_) (a' := ?_) #[true, true, true, true, true, true, true, true, true, true] rfl rfl (any_of HT_.out (by kernel_rfl)) (fun _ _ _ h => h) (Or.inl ⟨by rfl, ?_⟩) ?_ ?_
            rotate_left
            · intro w'
              go_simp
              with_reducible rfl
            rotate_left
            · simp only [Act.put, List.setIfInBounds_toArray, List.set_cons_zero, List.set_cons_succ, i64_w, i32_w]
              rfl
            refine done_ (done_of HT_.out (by kernel_rfl)) ?_
            try go_wp2_with (first | ((with_reducible refine gate_callee (f := 47) rfl ?_); refine goesL_ (some 38) rfl rfl Tryd.func47 (by kernel_rfl) rfl #[.int .i64 (l0.length : Int)] rfl (by (try simp only [List.map_toArray, List.map_cons, List.map_nil]); first | done | rfl | (simp only [List.length_drop, List.length_take]; rfl)) ?_; (with_reducible refine (earshotref10_May.calls (l0.length : Int) false _ A9.out).mono ?_); rintro e w' ⟨rfl, ⟨nd, rfl⟩⟩; refine ⟨_, rfl, ?_⟩; have hcz46_0 : w43.cell? ⟨gb197, 0, none⟩ = some (.slice Ao35 t190.length co35) := (blk_cell BK197.out 0).trans rfl; have hcz46_1 : w43.cell? ⟨gb197, 1, none⟩ = some (.slice Ao37 t193.length co37) := (blk_cell BK197.out 1).trans rfl; have hcz46_2 : w43.cell? ⟨gb197, 2, none⟩ = some (.int .i64 t196) := (blk_cell BK197.out 2).trans rfl; have hfz46_0 := blk_frozen BK197.out 0; have hfz46_1 := blk_frozen BK197.out 1; have hfz46_2 := blk_frozen BK197.out 2) | (go_at_call 26; (with_reducible refine (fft_Spins.calls _ _ l0 t208 _ ?side1 ?side2 A30.out).mono ?_); (case side1 => repeat (first | exact (Kd.C_below HR0.out (by repeat (first | (with_reducible first | exact HB.out | apply below_alloc | apply pw_below_drewN | apply below_drew1 | refine below_set ?_ GE197.out) | exact HB.out))) | (with_reducible refine Kd.C_alloc ?_ _) | (with_reducible refine Kd.C_drewN ?_ _) | (with_reducible refine Kd.C_drew ?_))); (case side2 => exact HC0.out); rintro e w47 ⟨v209, rfl, ho0, hb⟩; have n0_ := Aside0.mk (Kd.R_below (by (with_reducible repeat (first | apply Kd.R_alloc | apply Kd.R_drewN | apply Kd.R_drew)); (first | exact HO187.out | exact Kd.R_mono HO187.out (fun _ _ => trivial) | exact Kd.R_mono HO187.out (fun _ hk => hk.1))) hb); have n1_ := Aside0.mk (Kd.R_below (by (with_reducible repeat (first | apply Kd.R_alloc | apply Kd.R_drewN | apply Kd.R_drew)); (first | exact HO189.out | exact Kd.R_mono HO189.out (fun _ _ => trivial) | exact Kd.R_mono HO189.out (fun _ hk => hk.1))) hb); have n2_ := Aside0.mk (Kd.R_below (by (with_reducible repeat (first | apply Kd.R_alloc | apply Kd.R_drewN | apply Kd.R_drew)); (first | exact HO192.out | exact Kd.R_mono HO192.out (fun _ _ => trivial) | exact Kd.R_mono HO192.out (fun _ hk => hk.1))) hb); have n3_ := Aside0.mk (Kd.R_below (by (with_reducible repeat (first | apply Kd.R_alloc | apply Kd.R_drewN | apply Kd.R_drew)); (first | exact HO195.out | exact Kd.R_mono HO195.out (fun _ _ => trivial) | exact Kd.R_mono HO195.out (fun _ hk => hk.1))) hb); have n4_ := Aside0.mk (Kd.R_below (by (with_reducible repeat (first | apply Kd.R_alloc | apply Kd.R_drewN | apply Kd.R_drew)); (first | exact HO202.out | exact Kd.R_mono HO202.out (fun _ _ => trivial) | exact Kd.R_mono HO202.out (fun _ hk => hk.1))) hb); have n5_ := Aside0.mk (Kd.R_below (by (with_reducible repeat (first | apply Kd.R_alloc | apply Kd.R_drewN | apply Kd.R_drew)); (first | exact HO205.out | exact Kd.R_mono HO205.out (fun _ _ => trivial) | exact Kd.R_mono HO205.out (fun _ hk => hk.1))) hb); have n6_ := Aside0.mk (Kd.R_lower (Kd.R_new' (Kd.R_new' (Kd.R_new' (Kd.R_new' (Kd.R_new' (Kd.R_new' ho0 (Kd.R_lt (by (with_reducible repeat (first | apply Kd.R_alloc | apply Kd.R_drewN | apply Kd.R_drew)); (first | exact HO187.out | exact Kd.R_mono HO187.out (fun _ _ => trivial) | exact Kd.R_mono HO187.out (fun _ hk => hk.1))))) (Kd.R_lt (by (with_reducible repeat (first | apply Kd.R_alloc | apply Kd.R_drewN | apply Kd.R_drew)); (first | exact HO189.out | exact Kd.R_mono HO189.out (fun _ _ => trivial) | exact Kd.R_mono HO189.out (fun _ hk => hk.1))))) (Kd.R_lt (by (with_reducible repeat (first | apply Kd.R_alloc | apply Kd.R_drewN | apply Kd.R_drew)); (first | exact HO192.out | exact Kd.R_mono HO192.out (fun _ _ => trivial) | exact Kd.R_mono HO192.out (fun _ hk => hk.1))))) (Kd.R_lt (by (with_reducible repeat (first | apply Kd.R_alloc | apply Kd.R_drewN | apply Kd.R_drew)); (first | exact HO195.out | exact Kd.R_mono HO195.out (fun _ _ => trivial) | exact Kd.R_mono HO195.out (fun _ hk => hk.1))))) (Kd.R_lt (by (with_reducible repeat (first | apply Kd.R_alloc | apply Kd.R_drewN | apply Kd.R_drew)); (first | exact HO202.out | exact Kd.R_mono HO202.out (fun _ _ => trivial) | exact Kd.R_mono HO202.out (fun _ hk => hk.1))))) (Kd.R_lt (by (with_reducible repeat (first | apply Kd.R_alloc | apply Kd.R_drewN | apply Kd.R_drew)); (first | exact HO205.out | exact Kd.R_mono HO205.out (fun _ _ => trivial) | exact Kd.R_mono HO205.out (fun _ hk => hk.1))))) (below_size (by repeat (first | (with_reducible first | exact HB.out | apply below_alloc | apply pw_below_drewN | apply below_drew1 | refine below_set ?_ GE197.out) | exact HB.out)))); have n7_ := Aside0.mk (blk_below (g := gb197) (o := .cells #[.slice Ao35 t190.length co35, .slice Ao37 t193.length co37, .int .i64 t196] 58 (0, 0)) (by (with_reducible repeat (first | refine blk_drewN ?_ _ | refine blk_drew ?_ | refine blk_alloc ?_ _)); exact BK197.out) hb); have n8_ := Aside0.mk (below_step (by repeat (first | (with_reducible first | exact HB.out | apply below_alloc | apply pw_below_drewN | apply below_drew1 | refine below_set ?_ GE197.out) | exact HB.out)) hb); clear HO187; clear HO189; clear HO192; clear HO195; clear HO202; clear HO205; clear BK197; clear HB; have HO187 := n0_; have HO189 := n1_; have HO192 := n2_; have HO195 := n3_; have HO202 := n4_; have HO205 := n5_; have HO210 := n6_; have BK197 := n7_; have HB := n8_; clear n0_ n1_ n2_ n3_ n4_ n5_ n6_ n7_ n8_; (try clear hb); (try clear hb2); (try clear hk); (try clear hi); (try clear ho0); obtain ⟨Ao48, co48, eo48⟩ := Kd.R_slice HO210.out; subst eo48) | (go_at_call 28; (with_reducible refine (fft_Sum.calls 1 _ _ l0 t211 _ ?side1 ?side2 A31.out).mono ?_); (case side1 => repeat (first | exact (Kd.C_below HR0.out HB.out) | (with_reducible refine Kd.C_alloc ?_ _) | (with_reducible refine Kd.C_drewN ?_ _) | (with_reducible refine Kd.C_drew ?_))); (case side2 => exact HC0.out); rintro e w49 ⟨v212, rfl, ho0, hb⟩; have n0_ := Aside0.mk (Kd.R_elder' (by (with_reducible repeat (first | apply Kd.R_alloc | apply Kd.R_drewN | apply Kd.R_drew)); (first | exact HO187.out | exact Kd.R_mono HO187.out (fun _ _ => trivial) | exact Kd.R_mono HO187.out (fun _ hk => hk.1))) (Kd.R_base ho0) hb); have n1_ := Aside0.mk (Kd.R_elder' (by (with_reducible repeat (first | apply Kd.R_alloc | apply Kd.R_drewN | apply Kd.R_drew)); (first | exact HO189.out | exact Kd.R_mono HO189.out (fun _ _ => trivial) | exact Kd.R_mono HO189.out (fun _ hk => hk.1))) (Kd.R_base ho0) hb); have n2_ := Aside0.mk (Kd.R_elder' (by (with_reducible repeat (first | apply Kd.R_alloc | apply Kd.R_drewN | apply Kd.R_drew)); (first | exact HO192.out | exact Kd.R_mono HO192.out (fun _ _ => trivial) | exact Kd.R_mono HO192.out (fun _ hk => hk.1))) (Kd.R_base ho0) hb); have n3_ := Aside0.mk (Kd.R_elder' (by (with_reducible repeat (first | apply Kd.R_alloc | apply Kd.R_drewN | apply Kd.R_drew)); (first | exact HO195.out | exact Kd.R_mono HO195.out (fun _ _ => trivial) | exact Kd.R_mono HO195.out (fun _ hk => hk.1))) (Kd.R_base ho0) hb); have n4_ := Aside0.mk (Kd.R_elder' (by (with_reducible repeat (first | apply Kd.R_alloc | apply Kd.R_drewN | apply Kd.R_drew)); (first | exact HO202.out | exact Kd.R_mono HO202.out (fun _ _ => trivial) | exact Kd.R_mono HO202.out (fun _ hk => hk.1))) (Kd.R_base ho0) hb); have n5_ := Aside0.mk (Kd.R_elder' (by (with_reducible repeat (first | apply Kd.R_alloc | apply Kd.R_drewN | apply Kd.R_drew)); (first | exact HO205.out | exact Kd.R_mono HO205.out (fun _ _ => trivial) | exact Kd.R_mono HO205.out (fun _ hk => hk.1))) (Kd.R_base ho0) hb); have n6_ := Aside0.mk (Kd.R_elder' (by (with_reducible repeat (first | apply Kd.R_alloc | apply Kd.R_drewN | apply Kd.R_drew)); (first | exact HO210.out | exact Kd.R_mono HO210.out (fun _ _ => trivial) | exact Kd.R_mono HO210.out (fun _ hk => hk.1))) (Kd.R_base ho0) hb); have n7_ := Aside0.mk (Kd.R_lower (Kd.R_new' (Kd.R_new' (Kd.R_new' (Kd.R_new' (Kd.R_new' (Kd.R_new' ho0 (Kd.R_lt (by (with_reducible repeat (first | apply Kd.R_alloc | apply Kd.R_drewN | apply Kd.R_drew)); (first | exact HO187.out | exact Kd.R_mono HO187.out (fun _ _ => trivial) | exact Kd.R_mono HO187.out (fun _ hk => hk.1))))) (Kd.R_lt (by (with_reducible repeat (first | apply Kd.R_alloc | apply Kd.R_drewN | apply Kd.R_drew)); (first | exact HO189.out | exact Kd.R_mono HO189.out (fun _ _ => trivial) | exact Kd.R_mono HO189.out (fun _ hk => hk.1))))) (Kd.R_lt (by (with_reducible repeat (first | apply Kd.R_alloc | apply Kd.R_drewN | apply Kd.R_drew)); (first | exact HO192.out | exact Kd.R_mono HO192.out (fun _ _ => trivial) | exact Kd.R_mono HO192.out (fun _ hk => hk.1))))) (Kd.R_lt (by (with_reducible repeat (first | apply Kd.R_alloc | apply Kd.R_drewN | apply Kd.R_drew)); (first | exact HO195.out | exact Kd.R_mono HO195.out (fun _ _ => trivial) | exact Kd.R_mono HO195.out (fun _ hk => hk.1))))) (Kd.R_lt (by (with_reducible repeat (first | apply Kd.R_alloc | apply Kd.R_drewN | apply Kd.R_drew)); (first | exact HO202.out | exact Kd.R_mono HO202.out (fun _ _ => trivial) | exact Kd.R_mono HO202.out (fun _ hk => hk.1))))) (Kd.R_lt (by (with_reducible repeat (first | apply Kd.R_alloc | apply Kd.R_drewN | apply Kd.R_drew)); (first | exact HO205.out | exact Kd.R_mono HO205.out (fun _ _ => trivial) | exact Kd.R_mono HO205.out (fun _ hk => hk.1))))) (below_size (by repeat (first | (with_reducible first | exact HB.out | apply below_alloc | apply pw_below_drewN | apply below_drew1 | refine below_set ?_ GE197.out) | exact HB.out)))); have n8_ := Aside0.mk (blk_below (g := gb197) (o := .cells #[.slice Ao35 t190.length co35, .slice Ao37 t193.length co37, .int .i64 t196] 58 (0, 0)) (by (with_reducible repeat (first | refine blk_drewN ?_ _ | refine blk_drew ?_ | refine blk_alloc ?_ _)); exact BK197.out) hb); have n9_ := Aside0.mk (below_step (by repeat (first | (with_reducible first | exact HB.out | apply below_alloc | apply pw_below_drewN | apply below_drew1 | refine below_set ?_ GE197.out) | exact HB.out)) hb); clear HO187; clear HO189; clear HO192; clear HO195; clear HO202; clear HO205; clear HO210; clear BK197; clear HB; have HO187 := n0_; have HO189 := n1_; have HO192 := n2_; have HO195 := n3_; have HO202 := n4_; have HO205 := n5_; have HO210 := n6_; have HO213 := n7_; have BK197 := n8_; have HB := n9_; clear n0_ n1_ n2_ n3_ n4_ n5_ n6_ n7_ n8_ n9_; (try clear hb); (try clear hb2); (try clear hk); (try clear hi); (try clear ho0); obtain ⟨Ao50, co50, eo50⟩ := Kd.R_slice HO213.out; subst eo50))
            go_ret
            exact ⟨by first | rfl | (simp [errW_none, errW_some] <;> rfl) | (simp [*, errW_none, errW_some] <;> rfl), by repeat (first | (with_reducible first | exact HB.out | apply below_alloc | apply pw_below_drewN | apply below_drew1 | refine below_set ?_ GE197.out) | exact HB.out)⟩
        · rw [if_neg c13] at H
          have c13b0 : (t185 == t196) = false := beq_eq_false_iff_ne.mpr c13
          have c13b1 : (t185 != t196) = true := bne_iff_ne.mpr c13
          obtain rfl := Option.some.inj H
          go_enter Tryd.func31, Tryd.ntmps31
          try go_wp2_with (first | ((with_reducible refine gate_callee (f := 29) rfl ?_); refine goesL_ (some 13) rfl rfl Tryd.func29 (by kernel_rfl) rfl #[.slice A0 l0.length c0] rfl (by (try simp only [List.map_toArray, List.map_cons, List.map_nil]); first | done | rfl | (simp only [List.length_drop, List.length_take]; rfl)) ?_; (with_reducible refine (fft_Bins.calls _ _ l0 t183 t184 t185 _ ?side1 ?side2 ?side3 A2.out).mono ?_); (case side1 => exact GlobA.below HG.out (by repeat (first | (with_reducible first | exact HB.out | apply below_alloc | apply pw_below_drewN | apply below_drew1) | exact HB.out))); (case side2 => repeat (first | exact HR0.out | (with_reducible refine Kd.C_alloc ?_ _) | (with_reducible refine Kd.C_drewN ?_ _) | (with_reducible refine Kd.C_drew ?_))); (case side3 => exact HC0.out); rintro e w51 ⟨v186, v188, rfl, ho0, ho1, hb⟩; refine ⟨_, rfl, ?_⟩; have n0_ := Aside0.mk (Kd.R_lower ho0 (below_size (by repeat (first | (with_reducible first | exact HB.out | apply below_alloc | apply pw_below_drewN | apply below_drew1) | exact HB.out)))); have n1_ := Aside0.mk (Kd.R_lower ho1 (below_size (by repeat (first | (with_reducible first | exact HB.out | apply below_alloc | apply pw_below_drewN | apply below_drew1) | exact HB.out)))); have n2_ := Aside0.mk (below_step (by repeat (first | (with_reducible first | exact HB.out | apply below_alloc | apply pw_below_drewN | apply below_drew1) | exact HB.out)) hb); clear HB; have HO187 := n0_; have HO189 := n1_; have HB := n2_; clear n0_ n1_ n2_; (try clear hb); (try clear hb2); (try clear hk); (try clear hi); (try clear ho0); (try clear ho1)) | ((with_reducible refine gate_callee (f := 51) rfl ?_); refine goesL_ (some 18) rfl rfl Tryd.func51 (by kernel_rfl) rfl #[.slice A0 l0.length c0] rfl (by (try simp only [List.map_toArray, List.map_cons, List.map_nil]); first | done | rfl | (simp only [List.length_drop, List.length_take]; rfl)) ?_; (with_reducible refine (earshotref10_Bins.calls k _ _ l0 t190 t193 t196 _ ?side1 ?side2 A3.out).mono ?_); (case side1 => repeat (first | exact (Kd.C_below HR0.out HB.out) | (with_reducible refine Kd.C_alloc ?_ _) | (with_reducible refine Kd.C_drewN ?_ _) | (with_reducible refine Kd.C_drew ?_))); (case side2 => exact HC0.out); rintro e w52 ⟨v191, v194, rfl, ho0, ho1, hb⟩; refine ⟨_, rfl, ?_⟩; have n0_ := Aside0.mk (Kd.R_mono (Kd.R_told (Kd.R_told (Kd.R_old (by (with_reducible repeat (first | apply Kd.R_alloc | apply Kd.R_drewN | apply Kd.R_drew)); (first | exact HO187.out | exact Kd.R_mono HO187.out (fun _ _ => trivial) | exact Kd.R_mono HO187.out (fun _ hk => hk.1))) hb) (Kd.R_base ho0)) (Kd.R_base ho1)) (fun _ h_ => h_.1)); have n1_ := Aside0.mk (Kd.R_mono (Kd.R_told (Kd.R_told (Kd.R_old (by (with_reducible repeat (first | apply Kd.R_alloc | apply Kd.R_drewN | apply Kd.R_drew)); (first | exact HO189.out | exact Kd.R_mono HO189.out (fun _ _ => trivial) | exact Kd.R_mono HO189.out (fun _ hk => hk.1))) hb) (Kd.R_base ho0)) (Kd.R_base ho1)) (fun _ h_ => h_.1)); have n2_ := Aside0.mk (Kd.R_lower (Kd.R_new' (Kd.R_new' ho0 (Kd.R_lt (by (with_reducible repeat (first | apply Kd.R_alloc | apply Kd.R_drewN | apply Kd.R_drew)); (first | exact HO187.out | exact Kd.R_mono HO187.out (fun _ _ => trivial) | exact Kd.R_mono HO187.out (fun _ hk => hk.1))))) (Kd.R_lt (by (with_reducible repeat (first | apply Kd.R_alloc | apply Kd.R_drewN | apply Kd.R_drew)); (first | exact HO189.out | exact Kd.R_mono HO189.out (fun _ _ => trivial) | exact Kd.R_mono HO189.out (fun _ hk => hk.1))))) (below_size (by repeat (first | (with_reducible first | exact HB.out | apply below_alloc | apply pw_below_drewN | apply below_drew1) | exact HB.out)))); have n3_ := Aside0.mk (Kd.R_lower (Kd.R_new' (Kd.R_new' ho1 (Kd.R_lt (by (with_reducible repeat (first | apply Kd.R_alloc | apply Kd.R_drewN | apply Kd.R_drew)); (first | exact HO187.out | exact Kd.R_mono HO187.out (fun _ _ => trivial) | exact Kd.R_mono HO187.out (fun _ hk => hk.1))))) (Kd.R_lt (by (with_reducible repeat (first | apply Kd.R_alloc | apply Kd.R_drewN | apply Kd.R_drew)); (first | exact HO189.out | exact Kd.R_mono HO189.out (fun _ _ => trivial) | exact Kd.R_mono HO189.out (fun _ hk => hk.1))))) (below_size (by repeat (first | (with_reducible first | exact HB.out | apply below_alloc | apply pw_below_drewN | apply below_drew1) | exact HB.out)))); have n4_ := Aside0.mk (below_step (by repeat (first | (with_reducible first | exact HB.out | apply below_alloc | apply pw_below_drewN | apply below_drew1) | exact HB.out)) hb); clear HO187; clear HO189; clear HB; have HO187 := n0_; have HO189 := n1_; have HO192 := n2_; have HO195 := n3_; have HB := n4_; clear n0_ n1_ n2_ n3_ n4_; (try clear hb); (try clear hb2); (try clear hk); (try clear hi); (try clear ho0); (try clear ho1)) | ((with_reducible refine gate_dst (N := 6) rfl ?_); (try (refine gate_guard (by rfl) ?_; dsimp only)); refine box_event ?hg (N := 6) ?hd (cs := #[.slice none 0 0, .slice none 0 0, .int .i64 0]) (t := 58) ?hr ?_; (case hd => rfl); (case hg => first | rfl | exact wanted_on rfl rfl rfl (by first | assumption | rfl | (simp [*]; done))); (case hr => first | (go_simp; done) | (go_simp; rfl)); intro gb197 hg w53 hbox hb; have n0_ := Aside0.mk (Kd.R_below (by (with_reducible repeat (first | apply Kd.R_alloc | apply Kd.R_drewN | apply Kd.R_drew)); (first | exact HO187.out | exact Kd.R_mono HO187.out (fun _ _ => trivial) | exact Kd.R_mono HO187.out (fun _ hk => hk.1))) hb); have n1_ := Aside0.mk (Kd.R_below (by (with_reducible repeat (first | apply Kd.R_alloc | apply Kd.R_drewN | apply Kd.R_drew)); (first | exact HO189.out | exact Kd.R_mono HO189.out (fun _ _ => trivial) | exact Kd.R_mono HO189.out (fun _ hk => hk.1))) hb); have n2_ := Aside0.mk (Kd.R_below (by (with_reducible repeat (first | apply Kd.R_alloc | apply Kd.R_drewN | apply Kd.R_drew)); (first | exact HO192.out | exact Kd.R_mono HO192.out (fun _ _ => trivial) | exact Kd.R_mono HO192.out (fun _ hk => hk.1))) hb); have n3_ := Aside0.mk (Kd.R_below (by (with_reducible repeat (first | apply Kd.R_alloc | apply Kd.R_drewN | apply Kd.R_drew)); (first | exact HO195.out | exact Kd.R_mono HO195.out (fun _ _ => trivial) | exact Kd.R_mono HO195.out (fun _ hk => hk.1))) hb); have n4_ := Aside0.mk (below_step (by repeat (first | (with_reducible first | exact HB.out | apply below_alloc | apply pw_below_drewN | apply below_drew1) | exact HB.out)) hb); have n5_ := Aside0.mk (hbox); have n6_ := Aside0.mk ((by rw [hg]; exact (below_size (by repeat (first | (with_reducible first | exact HB.out | apply below_alloc | apply pw_below_drewN | apply below_drew1) | exact HB.out))) : w.heap.size ≤ gb197)); have n7_ := Aside0.mk ((by rw [hg]; exact (below_size (by repeat (first | (with_reducible first | exact HB.out | apply below_alloc | apply pw_below_drewN | apply below_drew1) | exact HB.out))) : w.heap.size ≤ gb197)); clear HO187; clear HO189; clear HO192; clear HO195; clear HB; have HO187 := n0_; have HO189 := n1_; have HO192 := n2_; have HO195 := n3_; have HB := n4_; have BK197 := n5_; have GW197 := n6_; have GE197 := n7_; clear n0_ n1_ n2_ n3_ n4_ n5_ n6_ n7_; clear hb hbox hg; obtain ⟨Ao54, co54, eo54⟩ := Kd.R_slice HO192.out; subst eo54; have hcz55_0 : w53.cell? ⟨gb197, 0, none⟩ = some (.slice none 0 0) := (blk_cell BK197.out 0).trans rfl; have hcz55_1 : w53.cell? ⟨gb197, 1, none⟩ = some (.slice none 0 0) := (blk_cell BK197.out 1).trans rfl; have hcz55_2 : w53.cell? ⟨gb197, 2, none⟩ = some (.int .i64 0) := (blk_cell BK197.out 2).trans rfl; have hfz55_0 := blk_frozen BK197.out 0; have hfz55_1 := blk_frozen BK197.out 1; have hfz55_2 := blk_frozen BK197.out 2; obtain ⟨Ao56, co56, eo56⟩ := Kd.R_slice HO195.out; subst eo56; obtain ⟨Ao57, co57, eo57⟩ := Kd.R_slice HO187.out; subst eo57) | ((with_reducible refine gate_callee (f := 19) rfl ?_); refine goesL_ (some 22) rfl rfl Tryd.func19 (by kernel_rfl) rfl #[.slice Ao57 t183.length co57, .slice Ao54 t190.length co54] rfl (by (try simp only [List.map_toArray, List.map_cons, List.map_nil]); first | done | rfl | (simp only [List.length_drop, List.length_take]; rfl)) ?_; (with_reducible refine (earshotref04_Same.calls k _ _ t183 _ _ t190 true _ ?side1 ?side2 ?side3 ?side4 A4.out).mono ?_); (case side1 => refine (Kd.R_reads' (e := 3) (base := w.heap.size) (ok := fun k_ => ((some k_ ≠ (v188 : Value).ownBlock ∧ some k_ ≠ (.slice Ao54 t190.length co54 : Value).ownBlock) ∧ some k_ ≠ (.slice Ao56 t193.length co56 : Value).ownBlock)) (n := t183.length) (c := co57) ?_).2.2; exact (by (with_reducible repeat (first | apply Kd.R_alloc | apply Kd.R_drewN | apply Kd.R_drew)); exact (Kd.R_mono (Kd.R_far (p := ⟨gb197, 2, none⟩) (Kd.R_far (p := ⟨gb197, 1, none⟩) (Kd.R_far (p := ⟨gb197, 0, none⟩) (Kd.R_types HO187.out BK197.out (by decide)) (fun _ hk => hk.2) (.slice Ao54 t190.length co54)) (fun _ hk => hk.2) (.slice Ao56 t193.length co56)) (fun _ hk => hk.2) (.int .i64 t196)) (fun _ h_ => h_.1)))); (case side2 => exact (Kd.R_reads' HO187.out).2.1); (case side3 => refine (Kd.R_reads' (e := 3) (base := w.heap.size) (ok := fun k_ => ((some k_ ≠ (.slice Ao56 t193.length co56 : Value).ownBlock ∧ some k_ ≠ (.slice Ao57 t183.length co57 : Value).ownBlock) ∧ some k_ ≠ (v188 : Value).ownBlock)) (n := t190.length) (c := co54) ?_).2.2; exact (by (with_reducible repeat (first | apply Kd.R_alloc | apply Kd.R_drewN | apply Kd.R_drew)); exact (Kd.R_mono (Kd.R_far (p := ⟨gb197, 2, none⟩) (Kd.R_far (p := ⟨gb197, 1, none⟩) (Kd.R_far (p := ⟨gb197, 0, none⟩) (Kd.R_types HO192.out BK197.out (by decide)) (fun _ hk => hk.2) (.slice Ao54 t190.length co54)) (fun _ hk => hk.2) (.slice Ao56 t193.length co56)) (fun _ hk => hk.2) (.int .i64 t196)) (fun _ h_ => h_.1)))); (case side4 => exact (Kd.R_reads' HO192.out).2.1); rintro e w' ⟨rfl, ⟨nd, rfl⟩⟩; refine ⟨_, rfl, ?_⟩; obtain ⟨Ao58, co58, eo58⟩ := Kd.R_slice HO189.out; subst eo58) | ((with_reducible refine gate_callee (f := 19) rfl ?_); refine goesL_ (some 26) rfl rfl Tryd.func19 (by kernel_rfl) rfl #[.slice Ao58 t184.length co58, .slice Ao56 t193.length co56] rfl (by (try simp only [List.map_toArray, List.map_cons, List.map_nil]); first | done | rfl | (simp only [List.length_drop, List.length_take]; rfl)) ?_; (with_reducible refine (earshotref04_Same.calls k _ _ t184 _ _ t193 true _ ?side1 ?side2 ?side3 ?side4 A5.out).mono ?_); (case side1 => refine (Kd.R_reads' (e := 3) (base := w.heap.size) (ok := fun k_ => ((some k_ ≠ (.slice Ao57 t183.length co57 : Value).ownBlock ∧ some k_ ≠ (.slice Ao54 t190.length co54 : Value).ownBlock) ∧ some k_ ≠ (.slice Ao56 t193.length co56 : Value).ownBlock)) (n := t184.length) (c := co58) ?_).2.2; exact (by (with_reducible repeat (first | apply Kd.R_alloc | apply Kd.R_drewN | apply Kd.R_drew)); exact (Kd.R_mono (Kd.R_far (p := ⟨gb197, 2, none⟩) (Kd.R_far (p := ⟨gb197, 1, none⟩) (Kd.R_far (p := ⟨gb197, 0, none⟩) (Kd.R_types HO189.out BK197.out (by decide)) (fun _ hk => hk.2) (.slice Ao54 t190.length co54)) (fun _ hk => hk.2) (.slice Ao56 t193.length co56)) (fun _ hk => hk.2) (.int .i64 t196)) (fun _ h_ => h_.1)))); (case side2 => exact (Kd.R_reads' HO189.out).2.1); (case side3 => refine (Kd.R_reads' (e := 3) (base := w.heap.size) (ok := fun k_ => ((some k_ ≠ (.slice Ao54 t190.length co54 : Value).ownBlock ∧ some k_ ≠ (.slice Ao57 t183.length co57 : Value).ownBlock) ∧ some k_ ≠ (.slice Ao58 t184.length co58 : Value).ownBlock)) (n := t193.length) (c := co56) ?_).2.2; exact (by (with_reducible repeat (first | apply Kd.R_alloc | apply Kd.R_drewN | apply Kd.R_drew)); exact (Kd.R_mono (Kd.R_far (p := ⟨gb197, 2, none⟩) (Kd.R_far (p := ⟨gb197, 1, none⟩) (Kd.R_far (p := ⟨gb197, 0, none⟩) (Kd.R_types HO195.out BK197.out (by decide)) (fun _ hk => hk.2) (.slice Ao54 t190.length co54)) (fun _ hk => hk.2) (.slice Ao56 t193.length co56)) (fun _ hk => hk.2) (.int .i64 t196)) (fun _ h_ => h_.1)))); (case side4 => exact (Kd.R_reads' HO195.out).2.1); rintro e w' ⟨rfl, ⟨nd, rfl⟩⟩; refine ⟨_, rfl, ?_⟩))
          have n0_ : Aside0 (Kd.R (Kd.int .i64) 3 (((w53.setCell ⟨gb197, 0, none⟩ (.slice Ao54 t190.length co54)).setCell ⟨gb197, 1, none⟩ (.slice Ao56 t193.length co56)).setCell ⟨gb197, 2, none⟩ (.int .i64 t196)) w.heap.size (fun k_ => some k_ ≠ (.slice Ao58 t184.length co58 : Value).ownBlock ∧ some k_ ≠ (.slice Ao54 t190.length co54 : Value).ownBlock ∧ some k_ ≠ (.slice Ao56 t193.length co56 : Value).ownBlock) (.slice Ao57 t183.length co57) t183) := ⟨by (with_reducible repeat (first | apply Kd.R_alloc | apply Kd.R_drewN | apply Kd.R_drew)); exact Kd.R_mono (Kd.R_far (p := ⟨gb197, 2, none⟩) (Kd.R_far (p := ⟨gb197, 1, none⟩) (Kd.R_far (p := ⟨gb197, 0, none⟩) (Kd.R_types HO187.out BK197.out (by decide)) (fun _ hk => hk.2) (.slice Ao54 t190.length co54)) (fun _ hk => hk.2) (.slice Ao56 t193.length co56)) (fun _ hk => hk.2) (.int .i64 t196)) (fun _ hk => ⟨hk.1.1.1, ⟨hk.1.1.2, hk.1.2⟩⟩)⟩
          have n1_ : Aside0 (Kd.R (Kd.int .i64) 3 (((w53.setCell ⟨gb197, 0, none⟩ (.slice Ao54 t190.length co54)).setCell ⟨gb197, 1, none⟩ (.slice Ao56 t193.length co56)).setCell ⟨gb197, 2, none⟩ (.int .i64 t196)) w.heap.size (fun k_ => some k_ ≠ (.slice Ao57 t183.length co57 : Value).ownBlock ∧ some k_ ≠ (.slice Ao54 t190.length co54 : Value).ownBlock ∧ some k_ ≠ (.slice Ao56 t193.length co56 : Value).ownBlock) (.slice Ao58 t184.length co58) t184) := ⟨by (with_reducible repeat (first | apply Kd.R_alloc | apply Kd.R_drewN | apply Kd.R_drew)); exact Kd.R_mono (Kd.R_far (p := ⟨gb197, 2, none⟩) (Kd.R_far (p := ⟨gb197, 1, none⟩) (Kd.R_far (p := ⟨gb197, 0, none⟩) (Kd.R_types HO189.out BK197.out (by decide)) (fun _ hk => hk.2) (.slice Ao54 t190.length co54)) (fun _ hk => hk.2) (.slice Ao56 t193.length co56)) (fun _ hk => hk.2) (.int .i64 t196)) (fun _ hk => ⟨hk.1.1.1, ⟨hk.1.1.2, hk.1.2⟩⟩)⟩
          have n2_ : Aside0 (Kd.R (Kd.int .i64) 3 (((w53.setCell ⟨gb197, 0, none⟩ (.slice Ao54 t190.length co54)).setCell ⟨gb197, 1, none⟩ (.slice Ao56 t193.length co56)).setCell ⟨gb197, 2, none⟩ (.int .i64 t196)) w.heap.size (fun k_ => some k_ ≠ (.slice Ao57 t183.length co57 : Value).ownBlock ∧ some k_ ≠ (.slice Ao58 t184.length co58 : Value).ownBlock ∧ some k_ ≠ (.slice Ao56 t193.length co56 : Value).ownBlock) (.slice Ao54 t190.length co54) t190) := ⟨by (with_reducible repeat (first | apply Kd.R_alloc | apply Kd.R_drewN | apply Kd.R_drew)); exact Kd.R_mono (Kd.R_far (p := ⟨gb197, 2, none⟩) (Kd.R_far (p := ⟨gb197, 1, none⟩) (Kd.R_far (p := ⟨gb197, 0, none⟩) (Kd.R_types HO192.out BK197.out (by decide)) (fun _ hk => hk.2) (.slice Ao54 t190.length co54)) (fun _ hk => hk.2) (.slice Ao56 t193.length co56)) (fun _ hk => hk.2) (.int .i64 t196)) (fun _ hk => ⟨hk.1.1.2, ⟨hk.1.2, hk.1.1.1⟩⟩)⟩
          have n3_ : Aside0 (Kd.R (Kd.int .i64) 3 (((w53.setCell ⟨gb197, 0, none⟩ (.slice Ao54 t190.length co54)).setCell ⟨gb197, 1, none⟩ (.slice Ao56 t193.length co56)).setCell ⟨gb197, 2, none⟩ (.int .i64 t196)) w.heap.size (fun k_ => some k_ ≠ (.slice Ao57 t183.length co57 : Value).ownBlock ∧ some k_ ≠ (.slice Ao58 t184.length co58 : Value).ownBlock ∧ some k_ ≠ (.slice Ao54 t190.length co54 : Value).ownBlock) (.slice Ao56 t193.length co56) t193) := ⟨by (with_reducible repeat (first | apply Kd.R_alloc | apply Kd.R_drewN | apply Kd.R_drew)); exact Kd.R_mono (Kd.R_far (p := ⟨gb197, 2, none⟩) (Kd.R_far (p := ⟨gb197, 1, none⟩) (Kd.R_far (p := ⟨gb197, 0, none⟩) (Kd.R_types HO195.out BK197.out (by decide)) (fun _ hk => hk.2) (.slice Ao54 t190.length co54)) (fun _ hk => hk.2) (.slice Ao56 t193.length co56)) (fun _ hk => hk.2) (.int .i64 t196)) (fun _ hk => ⟨hk.1.1.2, ⟨hk.1.2, hk.1.1.1⟩⟩)⟩
          have n4_ : Aside0 ((((w53.setCell ⟨gb197, 0, none⟩ (.slice Ao54 t190.length co54)).setCell ⟨gb197, 1, none⟩ (.slice Ao56 t193.length co56)).setCell ⟨gb197, 2, none⟩ (.int .i64 t196)).heap[gb197]? = some (.cells #[.slice Ao54 t190.length co54, .slice Ao56 t193.length co56, .int .i64 t196] 58 (0, 0))) := ⟨by (with_reducible repeat (first | refine blk_drewN ?_ _ | refine blk_drew ?_ | refine blk_alloc ?_ _)); refine blk_put (cs := #[.slice Ao54 t190.length co54, .slice Ao56 t193.length co56, .int .i64 0]) ?_ 2 _ rfl; (with_reducible repeat (first | refine blk_drewN ?_ _ | refine blk_drew ?_ | refine blk_alloc ?_ _)); refine blk_put (cs := #[.slice Ao54 t190.length co54, .slice none 0 0, .int .i64 0]) ?_ 1 _ rfl; (with_reducible repeat (first | refine blk_drewN ?_ _ | refine blk_drew ?_ | refine blk_alloc ?_ _)); refine blk_put (cs := #[.slice none 0 0, .slice none 0 0, .int .i64 0]) ?_ 0 _ rfl; (with_reducible repeat (first | refine blk_drewN ?_ _ | refine blk_drew ?_ | refine blk_alloc ?_ _)); exact BK197.out⟩
          have n5_ : Aside0 (Below w.heap.size w (((w53.setCell ⟨gb197, 0, none⟩ (.slice Ao54 t190.length co54)).setCell ⟨gb197, 1, none⟩ (.slice Ao56 t193.length co56)).setCell ⟨gb197, 2, none⟩ (.int .i64 t196))) := ⟨by repeat (first | (with_reducible first | exact HB.out | apply below_alloc | apply pw_below_drewN | apply below_drew1 | refine below_set ?_ GE197.out) | exact HB.out)⟩
          (try clear HO187)
          (try clear HO189)
          (try clear HO192)
          (try clear HO195)
          (try clear BK197)
          (try clear HB)
          generalize (((w53.setCell ⟨gb197, 0, none⟩ (.slice Ao54 t190.length co54)).setCell ⟨gb197, 1, none⟩ (.slice Ao56 t193.length co56)).setCell ⟨gb197, 2, none⟩ (.int .i64 t196)) = w59 at n0_ n1_ n2_ n3_ n4_ n5_ ⊢
          have HO187 := n0_
          have HO189 := n1_
          have HO192 := n2_
          have HO195 := n3_
          have BK197 := n4_
          have HB := n5_
          clear n0_ n1_ n2_ n3_ n4_ n5_
          (try (rw [drewN_self w59]; generalize hq_ : World.drewN w59 _ = w59; have n0_ : Aside0 (Kd.R (Kd.int .i64) 3 w59 w.heap.size (fun k_ => some k_ ≠ (.slice Ao58 t184.length co58 : Value).ownBlock ∧ some k_ ≠ (.slice Ao54 t190.length co54 : Value).ownBlock ∧ some k_ ≠ (.slice Ao56 t193.length co56 : Value).ownBlock) (.slice Ao57 t183.length co57) t183) := ⟨by rw [← hq_]; exact (by (with_reducible repeat (first | apply Kd.R_alloc | apply Kd.R_drewN | apply Kd.R_drew)); (first | exact HO187.out | exact Kd.R_mono HO187.out (fun _ _ => trivial) | exact Kd.R_mono HO187.out (fun _ hk => hk.1)))⟩; have n1_ : Aside0 (Kd.R (Kd.int .i64) 3 w59 w.heap.size (fun k_ => some k_ ≠ (.slice Ao57 t183.length co57 : Value).ownBlock ∧ some k_ ≠ (.slice Ao54 t190.length co54 : Value).ownBlock ∧ some k_ ≠ (.slice Ao56 t193.length co56 : Value).ownBlock) (.slice Ao58 t184.length co58) t184) := ⟨by rw [← hq_]; exact (by (with_reducible repeat (first | apply Kd.R_alloc | apply Kd.R_drewN | apply Kd.R_drew)); (first | exact HO189.out | exact Kd.R_mono HO189.out (fun _ _ => trivial) | exact Kd.R_mono HO189.out (fun _ hk => hk.1)))⟩; have n2_ : Aside0 (Kd.R (Kd.int .i64) 3 w59 w.heap.size (fun k_ => some k_ ≠ (.slice Ao57 t183.length co57 : Value).ownBlock ∧ some k_ ≠ (.slice Ao58 t184.length co58 : Value).ownBlock ∧ some k_ ≠ (.slice Ao56 t193.length co56 : Value).ownBlock) (.slice Ao54 t190.length co54) t190) := ⟨by rw [← hq_]; exact (by (with_reducible repeat (first | apply Kd.R_alloc | apply Kd.R_drewN | apply Kd.R_drew)); (first | exact HO192.out | exact Kd.R_mono HO192.out (fun _ _ => trivial) | exact Kd.R_mono HO192.out (fun _ hk => hk.1)))⟩; have n3_ : Aside0 (Kd.R (Kd.int .i64) 3 w59 w.heap.size (fun k_ => some k_ ≠ (.slice Ao57 t183.length co57 : Value).ownBlock ∧ some k_ ≠ (.slice Ao58 t184.length co58 : Value).ownBlock ∧ some k_ ≠ (.slice Ao54 t190.length co54 : Value).ownBlock) (.slice Ao56 t193.length co56) t193) := ⟨by rw [← hq_]; exact (by (with_reducible repeat (first | apply Kd.R_alloc | apply Kd.R_drewN | apply Kd.R_drew)); (first | exact HO195.out | exact Kd.R_mono HO195.out (fun _ _ => trivial) | exact Kd.R_mono HO195.out (fun _ hk => hk.1)))⟩; have n4_ : Aside0 (w59.heap[gb197]? = some (.cells #[.slice Ao54 t190.length co54, .slice Ao56 t193.length co56, .int .i64 t196] 58 (0, 0))) := ⟨by rw [← hq_]; exact (by (with_reducible repeat (first | refine blk_drewN ?_ _ | refine blk_drew ?_ | refine blk_alloc ?_ _)); exact BK197.out)⟩; have n5_ : Aside0 (Below w.heap.size w w59) := ⟨by rw [← hq_]; exact (by repeat (first | (with_reducible first | exact HB.out | apply below_alloc | apply pw_below_drewN | apply below_drew1 | refine below_set ?_ GE197.out) | exact HB.out))⟩; clear HO187 HO189 HO192 HO195 BK197 HB hq_; have HO187 := n0_; have HO189 := n1_; have HO192 := n2_; have HO195 := n3_; have BK197 := n4_; have HB := n5_; clear n0_ n1_ n2_ n3_ n4_ n5_))
          have n0_ := Aside0.mk (Kd.R_drew HO187.out)
          have n1_ := Aside0.mk (Kd.R_drew HO189.out)
          have n2_ := Aside0.mk (Kd.R_drew HO192.out)
          have n3_ := Aside0.mk (Kd.R_drew HO195.out)
          have n4_ := Aside0.mk (blk_drew BK197.out)
          have n5_ := Aside0.mk (below_drew1 HB.out)
          clear HO187
          clear HO189
          clear HO192
          clear HO195
          clear BK197
          clear HB
          have HO187 := n0_
          have HO189 := n1_
          have HO192 := n2_
          have HO195 := n3_
          have BK197 := n4_
          have HB := n5_
          clear n0_ n1_ n2_ n3_ n4_ n5_
          refine start_ (n := 10) (S := fun w' => w'.cell? ⟨gb197, 0, none⟩ = some (.slice Ao54 t190.length co54) ∧ w'.cell? ⟨gb197, 1, none⟩ = some (.slice Ao56 t193.length co56) ∧ w'.cell? ⟨gb197, 2, none⟩ = some (.int .i64 t196)) (ds := []) #[false, false, false, false, false, false, false, false, false, false] (by kernel_rfl) rfl rfl ⟨(blk_cell BK197.out 0).trans rfl, (blk_cell BK197.out 1).trans rfl, (blk_cell BK197.out 2).trans rfl⟩ (fun hHeld => ?_); refine with_tabW earshotlaw10_bins.tab5 earshotlaw10_bins.bits5 (fun HT_ HW_ => ?_)
          generalize w59.drew = w60 at HO187 HO189 HO192 HO195 BK197 HB hHeld ⊢
          refine pure_ (i := 0) (N := some 27) (v := ?_) (a' := ?_) #[true, false, false, false, false, false, false, false, false, false] rfl rfl (any_of HT_.out (by kernel_rfl)) (fun _ _ _ h => h) (Or.inl ⟨by rfl, ?_⟩) ?_ ?_
          rotate_left
          · intro w'
            go_simp
            with_reducible rfl
          rotate_left
          · simp only [Act.put, List.setIfInBounds_toArray, List.set_cons_zero, List.set_cons_succ, i64_w, i32_w]
            rfl
          refine pure_ (i := 1) (N := some 28) (v := ?_) (a' := ?_) #[true, true, false, false, false, false, false, false, false, false] rfl rfl (any_of HT_.out (by kernel_rfl)) (fun _ _ _ h => h) (Or.inl ⟨by rfl, ?_⟩) ?_ ?_
          rotate_left
          · intro w'
            go_simp
            with_reducible rfl
          rotate_left
          · simp only [Act.put, List.setIfInBounds_toArray, List.set_cons_zero, List.set_cons_succ, i64_w, i32_w]
            rfl
          refine pure_ (i := 3) (N := some 30) (v := ?_) (a' := ?_) #[true, true, false, true, false, false, false, false, false, false] rfl rfl (any_of HT_.out (by kernel_rfl)) (fun _ _ _ h => h) (Or.inl ⟨by rfl, ?_⟩) ?_ ?_
          rotate_left
          · intro w'
            go_simp
            with_reducible rfl
          rotate_left
          · simp only [Act.put, List.setIfInBounds_toArray, List.set_cons_zero, List.set_cons_succ, i64_w, i32_w]
            rfl
          refine pure_ (i := 5) (N := some 32) (v := ?_) (a' := ?_) #[true, true, false, true, false, true, false, false, false, false] rfl rfl (any_of HT_.out (by kernel_rfl)) (fun _ _ _ h => h) (Or.inl ⟨by rfl, ?_⟩) ?_ ?_
          rotate_left
          · intro w'
            go_simp
            with_reducible rfl
          rotate_left
          · simp only [Act.put, List.setIfInBounds_toArray, List.set_cons_zero, List.set_cons_succ, i64_w, i32_w]
            rfl
          refine take_ (i := 4) (N := some 31) (v := ?_) (a' := ?_) #[true, true, false, true, true, true, false, false, false, false] rfl rfl (take_ofW HT_.out HW_.out (by kernel_rfl)) (fun _ _ _ h => h) (Or.inl ⟨by rfl, ?_⟩) hHeld ?_ ?_
          rotate_left
          · rintro w' ⟨s0, s1, s2⟩
            go_simp
            with_reducible rfl
          rotate_left
          · simp only [Act.put, List.setIfInBounds_toArray, List.set_cons_zero, List.set_cons_succ, i64_w, i32_w]
            rfl
          refine take_ (i := 6) (N := some 33) (v := ?_) (a' := ?_) #[true, true, false, true, true, true, true, false, false, false] rfl rfl (take_ofW HT_.out HW_.out (by kernel_rfl)) (fun _ _ _ h => h) (Or.inl ⟨by rfl, ?_⟩) hHeld ?_ ?_
          rotate_left
          · rintro w' ⟨s0, s1, s2⟩
            go_simp
            with_reducible rfl
          rotate_left
          · simp only [Act.put, List.setIfInBounds_toArray, List.set_cons_zero, List.set_cons_succ, i64_w, i32_w]
            rfl
          refine one_ (i := 2) (N := some 29) #[true, true, true, true, true, true, true, false, false, false] rfl rfl (one_of HT_.out (by kernel_rfl)) (by decide) (fun K hK => ?_)
          refine goes_ Tryd.func52 (by kernel_rfl) rfl #[.slice Ao57 t183.length co57, .slice Ao58 t184.length co58] (by first | rfl | exact wanted_on rfl rfl rfl (by first | assumption | rfl | (simp [*]; done))) rfl rfl (by (try simp only [List.map_toArray, List.map_cons, List.map_nil]); first | done | rfl | (simp only [List.length_drop, List.length_take]; rfl)) ?_
          with_reducible refine (fft_Power.calls _ _ t183 _ _ t184 t200 _ ?side1 ?side2 ?side3 ?side4 A6.out).mono ?_
          (case side1 => repeat (first | exact (Kd.R_reads' HO187.out).2.2 | (with_reducible refine Kd.C_alloc ?_ _) | (with_reducible refine Kd.C_drewN ?_ _) | (with_reducible refine Kd.C_drew ?_)))
          (case side2 => exact (Kd.R_reads' HO187.out).2.1)
          (case side3 => repeat (first | exact (Kd.R_reads' HO189.out).2.2 | (with_reducible refine Kd.C_alloc ?_ _) | (with_reducible refine Kd.C_drewN ?_ _) | (with_reducible refine Kd.C_drew ?_)))
          (case side4 => exact (Kd.R_reads' HO189.out).2.1)
          rintro e w61 ⟨v201, rfl, ho0, hb⟩
          refine ⟨_, rfl, ?_⟩
          have n0_ := Aside0.mk (Kd.R_elder' (by (with_reducible repeat (first | apply Kd.R_alloc | apply Kd.R_drewN | apply Kd.R_drew)); (first | exact HO187.out | exact Kd.R_mono HO187.out (fun _ _ => trivial) | exact Kd.R_mono HO187.out (fun _ hk => hk.1))) (Kd.R_base ho0) hb)
          have n1_ := Aside0.mk (Kd.R_elder' (by (with_reducible repeat (first | apply Kd.R_alloc | apply Kd.R_drewN | apply Kd.R_drew)); (first | exact HO189.out | exact Kd.R_mono HO189.out (fun _ _ => trivial) | exact Kd.R_mono HO189.out (fun _ hk => hk.1))) (Kd.R_base ho0) hb)
          have n2_ := Aside0.mk (Kd.R_elder' (by (with_reducible repeat (first | apply Kd.R_alloc | apply Kd.R_drewN | apply Kd.R_drew)); (first | exact HO192.out | exact Kd.R_mono HO192.out (fun _ _ => trivial) | exact Kd.R_mono HO192.out (fun _ hk => hk.1))) (Kd.R_base ho0) hb)
          have n3_ := Aside0.mk (Kd.R_elder' (by (with_reducible repeat (first | apply Kd.R_alloc | apply Kd.R_drewN | apply Kd.R_drew)); (first | exact HO195.out | exact Kd.R_mono HO195.out (fun _ _ => trivial) | exact Kd.R_mono HO195.out (fun _ hk => hk.1))) (Kd.R_base ho0) hb)
          have n4_ := Aside0.mk (Kd.R_lower (Kd.R_new' (Kd.R_new' (Kd.R_new' (Kd.R_new' ho0 (Kd.R_lt (by (with_reducible repeat (first | apply Kd.R_alloc | apply Kd.R_drewN | apply Kd.R_drew)); (first | exact HO187.out | exact Kd.R_mono HO187.out (fun _ _ => trivial) | exact Kd.R_mono HO187.out (fun _ hk => hk.1))))) (Kd.R_lt (by (with_reducible repeat (first | apply Kd.R_alloc | apply Kd.R_drewN | apply Kd.R_drew)); (first | exact HO189.out | exact Kd.R_mono HO189.out (fun _ _ => trivial) | exact Kd.R_mono HO189.out (fun _ hk => hk.1))))) (Kd.R_lt (by (with_reducible repeat (first | apply Kd.R_alloc | apply Kd.R_drewN | apply Kd.R_drew)); (first | exact HO192.out | exact Kd.R_mono HO192.out (fun _ _ => trivial) | exact Kd.R_mono HO192.out (fun _ hk => hk.1))))) (Kd.R_lt (by (with_reducible repeat (first | apply Kd.R_alloc | apply Kd.R_drewN | apply Kd.R_drew)); (first | exact HO195.out | exact Kd.R_mono HO195.out (fun _ _ => trivial) | exact Kd.R_mono HO195.out (fun _ hk => hk.1))))) (below_size (by repeat (first | (with_reducible first | exact HB.out | apply below_alloc | apply pw_below_drewN | apply below_drew1 | refine below_set ?_ GE197.out) | exact HB.out))))
          have n5_ := Aside0.mk (blk_below (g := gb197) (o := .cells #[.slice Ao54 t190.length co54, .slice Ao56 t193.length co56, .int .i64 t196] 58 (0, 0)) (by (with_reducible repeat (first | refine blk_drewN ?_ _ | refine blk_drew ?_ | refine blk_alloc ?_ _)); exact BK197.out) hb)
          have n6_ := Aside0.mk (below_step (by repeat (first | (with_reducible first | exact HB.out | apply below_alloc | apply pw_below_drewN | apply below_drew1 | refine below_set ?_ GE197.out) | exact HB.out)) hb)
          clear HO187
          clear HO189
          clear HO192
          clear HO195
          clear BK197
          clear HB
          have HO187 := n0_
          have HO189 := n1_
          have HO192 := n2_
          have HO195 := n3_
          have HO202 := n4_
          have BK197 := n5_
          have HB := n6_
          clear n0_ n1_ n2_ n3_ n4_ n5_ n6_
          (try clear hb)
          (try clear hb2)
          (try clear hk)
          (try clear hi)
          (try clear ho0)
          refine hK.out _ _ ⟨(blk_cell BK197.out 0).trans rfl, (blk_cell BK197.out 1).trans rfl, (blk_cell BK197.out 2).trans rfl⟩ (fun hHeld => ?_)
          clear hK K
          refine norm_ (a' := ?_) ?_ ?_
          rotate_left
          · show Act.put _ (some 29) _ = _
            simp only [Act.put, List.setIfInBounds_toArray, List.set_cons_zero, List.set_cons_succ, i64_w, i32_w]
            rfl
          refine one_ (i := 7) (N := some 34) #[true, true, true, true, true, true, true, true, false, false] rfl rfl (one_of HT_.out (by kernel_rfl)) (by decide) (fun K hK => ?_)
          refine goes_ Tryd.func53 (by kernel_rfl) rfl #[.slice Ao54 t190.length co54, .slice Ao56 t193.length co56] (by first | rfl | exact wanted_on rfl rfl rfl (by first | assumption | rfl | (simp [*]; done))) rfl rfl (by (try simp only [List.map_toArray, List.map_cons, List.map_nil]); first | done | rfl | (simp only [List.length_drop, List.length_take]; rfl)) ?_
          with_reducible refine (earshotref10_Power.calls k _ _ t190 _ _ t193 t203 _ ?side1 ?side2 ?side3 ?side4 A7.out).mono ?_
          (case side1 => repeat (first | exact (Kd.R_reads' HO192.out).2.2 | (with_reducible refine Kd.C_alloc ?_ _) | (with_reducible refine Kd.C_drewN ?_ _) | (with_reducible refine Kd.C_drew ?_)))
          (case side2 => exact (Kd.R_reads' HO192.out).2.1)
          (case side3 => repeat (first | exact (Kd.R_reads' HO195.out).2.2 | (with_reducible refine Kd.C_alloc ?_ _) | (with_reducible refine Kd.C_drewN ?_ _) | (with_reducible refine Kd.C_drew ?_)))
          (case side4 => exact (Kd.R_reads' HO195.out).2.1)
          rintro e w62 ⟨v204, rfl, ho0, hb⟩
          refine ⟨_, rfl, ?_⟩
          have n0_ := Aside0.mk (Kd.R_elder' (by (with_reducible repeat (first | apply Kd.R_alloc | apply Kd.R_drewN | apply Kd.R_drew)); (first | exact HO187.out | exact Kd.R_mono HO187.out (fun _ _ => trivial) | exact Kd.R_mono HO187.out (fun _ hk => hk.1))) (Kd.R_base ho0) hb)
          have n1_ := Aside0.mk (Kd.R_elder' (by (with_reducible repeat (first | apply Kd.R_alloc | apply Kd.R_drewN | apply Kd.R_drew)); (first | exact HO189.out | exact Kd.R_mono HO189.out (fun _ _ => trivial) | exact Kd.R_mono HO189.out (fun _ hk => hk.1))) (Kd.R_base ho0) hb)
          have n2_ := Aside0.mk (Kd.R_elder' (by (with_reducible repeat (first | apply Kd.R_alloc | apply Kd.R_drewN | apply Kd.R_drew)); (first | exact HO192.out | exact Kd.R_mono HO192.out (fun _ _ => trivial) | exact Kd.R_mono HO192.out (fun _ hk => hk.1))) (Kd.R_base ho0) hb)
          have n3_ := Aside0.mk (Kd.R_elder' (by (with_reducible repeat (first | apply Kd.R_alloc | apply Kd.R_drewN | apply Kd.R_drew)); (first | exact HO195.out | exact Kd.R_mono HO195.out (fun _ _ => trivial) | exact Kd.R_mono HO195.out (fun _ hk => hk.1))) (Kd.R_base ho0) hb)
          have n4_ := Aside0.mk (Kd.R_elder' (by (with_reducible repeat (first | apply Kd.R_alloc | apply Kd.R_drewN | apply Kd.R_drew)); (first | exact HO202.out | exact Kd.R_mono HO202.out (fun _ _ => trivial) | exact Kd.R_mono HO202.out (fun _ hk => hk.1))) (Kd.R_base ho0) hb)
          have n5_ := Aside0.mk (Kd.R_lower (Kd.R_new' (Kd.R_new' (Kd.R_new' (Kd.R_new' (Kd.R_new' ho0 (Kd.R_lt (by (with_reducible repeat (first | apply Kd.R_alloc | apply Kd.R_drewN | apply Kd.R_drew)); (first | exact HO187.out | exact Kd.R_mono HO187.out (fun _ _ => trivial) | exact Kd.R_mono HO187.out (fun _ hk => hk.1))))) (Kd.R_lt (by (with_reducible repeat (first | apply Kd.R_alloc | apply Kd.R_drewN | apply Kd.R_drew)); (first | exact HO189.out | exact Kd.R_mono HO189.out (fun _ _ => trivial) | exact Kd.R_mono HO189.out (fun _ hk => hk.1))))) (Kd.R_lt (by (with_reducible repeat (first | apply Kd.R_alloc | apply Kd.R_drewN | apply Kd.R_drew)); (first | exact HO192.out | exact Kd.R_mono HO192.out (fun _ _ => trivial) | exact Kd.R_mono HO192.out (fun _ hk => hk.1))))) (Kd.R_lt (by (with_reducible repeat (first | apply Kd.R_alloc | apply Kd.R_drewN | apply Kd.R_drew)); (first | exact HO195.out | exact Kd.R_mono HO195.out (fun _ _ => trivial) | exact Kd.R_mono HO195.out (fun _ hk => hk.1))))) (Kd.R_lt (by (with_reducible repeat (first | apply Kd.R_alloc | apply Kd.R_drewN | apply Kd.R_drew)); (first | exact HO202.out | exact Kd.R_mono HO202.out (fun _ _ => trivial) | exact Kd.R_mono HO202.out (fun _ hk => hk.1))))) (below_size (by repeat (first | (with_reducible first | exact HB.out | apply below_alloc | apply pw_below_drewN | apply below_drew1 | refine below_set ?_ GE197.out) | exact HB.out))))
          have n6_ := Aside0.mk (blk_below (g := gb197) (o := .cells #[.slice Ao54 t190.length co54, .slice Ao56 t193.length co56, .int .i64 t196] 58 (0, 0)) (by (with_reducible repeat (first | refine blk_drewN ?_ _ | refine blk_drew ?_ | refine blk_alloc ?_ _)); exact BK197.out) hb)
          have n7_ := Aside0.mk (below_step (by repeat (first | (with_reducible first | exact HB.out | apply below_alloc | apply pw_below_drewN | apply below_drew1 | refine below_set ?_ GE197.out) | exact HB.out)) hb)
          clear HO187
          clear HO189
          clear HO192
          clear HO195
          clear HO202
          clear BK197
          clear HB
          have HO187 := n0_
          have HO189 := n1_
          have HO192 := n2_
          have HO195 := n3_
          have HO202 := n4_
          have HO205 := n5_
          have BK197 := n6_
          have HB := n7_
          clear n0_ n1_ n2_ n3_ n4_ n5_ n6_ n7_
          (try clear hb)
          (try clear hb2)
          (try clear hk)
          (try clear hi)
          (try clear ho0)
          obtain ⟨Ao63, co63, eo63⟩ := Kd.R_slice HO202.out
          (first | subst eo63 | (injection eo63 with f1_ f2_ f3_; have f4_ := f1_.symm; have f5_ := f3_.symm; clear f1_ f2_ f3_; subst f4_; subst f5_))
          obtain ⟨Ao64, co64, eo64⟩ := Kd.R_slice HO205.out
          (first | subst eo64 | (injection eo64 with f1_ f2_ f3_; have f4_ := f1_.symm; have f5_ := f3_.symm; clear f1_ f2_ f3_; subst f4_; subst f5_))
          refine hK.out _ _ ⟨(blk_cell BK197.out 0).trans rfl, (blk_cell BK197.out 1).trans rfl, (blk_cell BK197.out 2).trans rfl⟩ (fun hHeld => ?_)
          clear hK K
          refine norm_ (a' := ?_) ?_ ?_
          rotate_left
          · show Act.put _ (some 34) _ = _
            simp only [Act.put, List.setIfInBounds_toArray, List.set_cons_zero, List.set_cons_succ, i64_w, i32_w]
            rfl
          refine one_ (i := 8) (N := some 35) #[true, true, true, true, true, true, true, true, true, false] rfl rfl (one_of HT_.out (by kernel_rfl)) (by decide) (fun K hK => ?_)
          refine goes_ Tryd.func19 (by kernel_rfl) rfl #[.slice Ao63 t200.length co63, .slice Ao64 t203.length co64] (by first | rfl | exact wanted_on rfl rfl rfl (by first | assumption | rfl | (simp [*]; done))) rfl rfl (by (try simp only [List.map_toArray, List.map_cons, List.map_nil]); first | done | rfl | (simp only [List.length_drop, List.length_take]; rfl)) ?_
          with_reducible refine (earshotref04_Same.calls k _ _ t200 _ _ t203 true _ ?side1 ?side2 ?side3 ?side4 A8.out).mono ?_
          (case side1 => repeat (first | exact (Kd.R_reads' HO202.out).2.2 | (with_reducible refine Kd.C_alloc ?_ _) | (with_reducible refine Kd.C_drewN ?_ _) | (with_reducible refine Kd.C_drew ?_)))
          (case side2 => exact (Kd.R_reads' HO202.out).2.1)
          (case side3 => repeat (first | exact (Kd.R_reads' HO205.out).2.2 | (with_reducible refine Kd.C_alloc ?_ _) | (with_reducible refine Kd.C_drewN ?_ _) | (with_reducible refine Kd.C_drew ?_)))
          (case side4 => exact (Kd.R_reads' HO205.out).2.1)
          rintro e w' ⟨rfl, ⟨nd, rfl⟩⟩
          refine ⟨_, rfl, ?_⟩
          refine hK.out _ _ ⟨(blk_cell BK197.out 0).trans rfl, (blk_cell BK197.out 1).trans rfl, (blk_cell BK197.out 2).trans rfl⟩ (fun hHeld => ?_)
          clear hK K
          refine norm_ (a' := ?_) ?_ ?_
          rotate_left
          · show Act.put _ (some 35) _ = _
            simp only [Act.put, List.setIfInBounds_toArray, List.set_cons_zero, List.set_cons_succ, i64_w, i32_w]
            rfl
          refine pure_ (i := 9) (N := some 9) (v := ?_) (a' := ?_) #[true, true, true, true, true, true, true, true, true, true] rfl rfl (any_of HT_.out (by kernel_rfl)) (fun _ _ _ h => h) (Or.inl ⟨by rfl, ?_⟩) ?_ ?_
          rotate_left
          · intro w'
            go_simp
            with_reducible rfl
          rotate_left
          · simp only [Act.put, List.setIfInBounds_toArray, List.set_cons_zero, List.set_cons_succ, i64_w, i32_w]
            rfl
          refine done_ (done_of HT_.out (by kernel_rfl)) ?_
          try go_wp2_with (first | ((with_reducible refine gate_callee (f := 47) rfl ?_); refine goesL_ (some 38) rfl rfl Tryd.func47 (by kernel_rfl) rfl #[.int .i64 (l0.length : Int)] rfl (by (try simp only [List.map_toArray, List.map_cons, List.map_nil]); first | done | rfl | (simp only [List.length_drop, List.length_take]; rfl)) ?_; (with_reducible refine (earshotref10_May.calls (l0.length : Int) t207 _ A9.out).mono ?_); rintro e w' ⟨rfl, ⟨nd, rfl⟩⟩; refine ⟨_, rfl, ?_⟩; have hcz65_0 : w62.cell? ⟨gb197, 0, none⟩ = some (.slice Ao54 t190.length co54) := (blk_cell BK197.out 0).trans rfl; have hcz65_1 : w62.cell? ⟨gb197, 1, none⟩ = some (.slice Ao56 t193.length co56) := (blk_cell BK197.out 1).trans rfl; have hcz65_2 : w62.cell? ⟨gb197, 2, none⟩ = some (.int .i64 t196) := (blk_cell BK197.out 2).trans rfl; have hfz65_0 := blk_frozen BK197.out 0; have hfz65_1 := blk_frozen BK197.out 1; have hfz65_2 := blk_frozen BK197.out 2))
          go_ret
          exact ⟨by first | rfl | (simp [errW_none, errW_some] <;> rfl) | (simp [*, errW_none, errW_some] <;> rfl), by repeat (first | (with_reducible first | exact HB.out | apply below_alloc | apply pw_below_drewN | apply below_drew1 | refine below_set ?_ GE197.out) | exact HB.out)⟩
      · replace c12 := Bool.eq_false_iff.mpr c12
        subst c12
        have H1 : (some false) = some r := by rw [if_neg (show ¬ (false = true) by decide)] at H; exact H
        clear H
        have H := H1
        clear H1
        obtain rfl := Option.some.inj H
        go_enter Tryd.func31, Tryd.ntmps31
        try go_wp2_with (first | ((with_reducible refine gate_callee (f := 29) rfl ?_); refine goesL_ (some 13) rfl rfl Tryd.func29 (by kernel_rfl) rfl #[.slice A0 l0.length c0] rfl (by (try simp only [List.map_toArray, List.map_cons, List.map_nil]); first | done | rfl | (simp only [List.length_drop, List.length_take]; rfl)) ?_; (with_reducible refine (fft_Bins.calls _ _ l0 t183 t184 t185 _ ?side1 ?side2 ?side3 A2.out).mono ?_); (case side1 => exact GlobA.below HG.out (by repeat (first | (with_reducible first | exact HB.out | apply below_alloc | apply pw_below_drewN | apply below_drew1) | exact HB.out))); (case side2 => repeat (first | exact HR0.out | (with_reducible refine Kd.C_alloc ?_ _) | (with_reducible refine Kd.C_drewN ?_ _) | (with_reducible refine Kd.C_drew ?_))); (case side3 => exact HC0.out); rintro e w66 ⟨v186, v188, rfl, ho0, ho1, hb⟩; refine ⟨_, rfl, ?_⟩; have n0_ := Aside0.mk (Kd.R_lower ho0 (below_size (by repeat (first | (with_reducible first | exact HB.out | apply below_alloc | apply pw_below_drewN | apply below_drew1) | exact HB.out)))); have n1_ := Aside0.mk (Kd.R_lower ho1 (below_size (by repeat (first | (with_reducible first | exact HB.out | apply below_alloc | apply pw_below_drewN | apply below_drew1) | exact HB.out)))); have n2_ := Aside0.mk (below_step (by repeat (first | (with_reducible first | exact HB.out | apply below_alloc | apply pw_below_drewN | apply below_drew1) | exact HB.out)) hb); clear HB; have HO187 := n0_; have HO189 := n1_; have HB := n2_; clear n0_ n1_ n2_; (try clear hb); (try clear hb2); (try clear hk); (try clear hi); (try clear ho0); (try clear ho1)) | ((with_reducible refine gate_callee (f := 51) rfl ?_); refine goesL_ (some 18) rfl rfl Tryd.func51 (by kernel_rfl) rfl #[.slice A0 l0.length c0] rfl (by (try simp only [List.map_toArray, List.map_cons, List.map_nil]); first | done | rfl | (simp only [List.length_drop, List.length_take]; rfl)) ?_; (with_reducible refine (earshotref10_Bins.calls k _ _ l0 t190 t193 t196 _ ?side1 ?side2 A3.out).mono ?_); (case side1 => repeat (first | exact (Kd.C_below HR0.out HB.out) | (with_reducible refine Kd.C_alloc ?_ _) | (with_reducible refine Kd.C_drewN ?_ _) | (with_reducible refine Kd.C_drew ?_))); (case side2 => exact HC0.out); rintro e w67 ⟨v191, v194, rfl, ho0, ho1, hb⟩; refine ⟨_, rfl, ?_⟩; have n0_ := Aside0.mk (Kd.R_mono (Kd.R_told (Kd.R_told (Kd.R_old (by (with_reducible repeat (first | apply Kd.R_alloc | apply Kd.R_drewN | apply Kd.R_drew)); (first | exact HO187.out | exact Kd.R_mono HO187.out (fun _ _ => trivial) | exact Kd.R_mono HO187.out (fun _ hk => hk.1))) hb) (Kd.R_base ho0)) (Kd.R_base ho1)) (fun _ h_ => h_.1)); have n1_ := Aside0.mk (Kd.R_mono (Kd.R_told (Kd.R_told (Kd.R_old (by (with_reducible repeat (first | apply Kd.R_alloc | apply Kd.R_drewN | apply Kd.R_drew)); (first | exact HO189.out | exact Kd.R_mono HO189.out (fun _ _ => trivial) | exact Kd.R_mono HO189.out (fun _ hk => hk.1))) hb) (Kd.R_base ho0)) (Kd.R_base ho1)) (fun _ h_ => h_.1)); have n2_ := Aside0.mk (Kd.R_lower (Kd.R_new' (Kd.R_new' ho0 (Kd.R_lt (by (with_reducible repeat (first | apply Kd.R_alloc | apply Kd.R_drewN | apply Kd.R_drew)); (first | exact HO187.out | exact Kd.R_mono HO187.out (fun _ _ => trivial) | exact Kd.R_mono HO187.out (fun _ hk => hk.1))))) (Kd.R_lt (by (with_reducible repeat (first | apply Kd.R_alloc | apply Kd.R_drewN | apply Kd.R_drew)); (first | exact HO189.out | exact Kd.R_mono HO189.out (fun _ _ => trivial) | exact Kd.R_mono HO189.out (fun _ hk => hk.1))))) (below_size (by repeat (first | (with_reducible first | exact HB.out | apply below_alloc | apply pw_below_drewN | apply below_drew1) | exact HB.out)))); have n3_ := Aside0.mk (Kd.R_lower (Kd.R_new' (Kd.R_new' ho1 (Kd.R_lt (by (with_reducible repeat (first | apply Kd.R_alloc | apply Kd.R_drewN | apply Kd.R_drew)); (first | exact HO187.out | exact Kd.R_mono HO187.out (fun _ _ => trivial) | exact Kd.R_mono HO187.out (fun _ hk => hk.1))))) (Kd.R_lt (by (with_reducible repeat (first | apply Kd.R_alloc | apply Kd.R_drewN | apply Kd.R_drew)); (first | exact HO189.out | exact Kd.R_mono HO189.out (fun _ _ => trivial) | exact Kd.R_mono HO189.out (fun _ hk => hk.1))))) (below_size (by repeat (first | (with_reducible first | exact HB.out | apply below_alloc | apply pw_below_drewN | apply below_drew1) | exact HB.out)))); have n4_ := Aside0.mk (below_step (by repeat (first | (with_reducible first | exact HB.out | apply below_alloc | apply pw_below_drewN | apply below_drew1) | exact HB.out)) hb); clear HO187; clear HO189; clear HB; have HO187 := n0_; have HO189 := n1_; have HO192 := n2_; have HO195 := n3_; have HB := n4_; clear n0_ n1_ n2_ n3_ n4_; (try clear hb); (try clear hb2); (try clear hk); (try clear hi); (try clear ho0); (try clear ho1)) | ((with_reducible refine gate_dst (N := 6) rfl ?_); (try (refine gate_guard (by rfl) ?_; dsimp only)); refine box_event ?hg (N := 6) ?hd (cs := #[.slice none 0 0, .slice none 0 0, .int .i64 0]) (t := 58) ?hr ?_; (case hd => rfl); (case hg => first | rfl | exact wanted_on rfl rfl rfl (by first | assumption | rfl | (simp [*]; done))); (case hr => first | (go_simp; done) | (go_simp; rfl)); intro gb197 hg w68 hbox hb; have n0_ := Aside0.mk (Kd.R_below (by (with_reducible repeat (first | apply Kd.R_alloc | apply Kd.R_drewN | apply Kd.R_drew)); (first | exact HO187.out | exact Kd.R_mono HO187.out (fun _ _ => trivial) | exact Kd.R_mono HO187.out (fun _ hk => hk.1))) hb); have n1_ := Aside0.mk (Kd.R_below (by (with_reducible repeat (first | apply Kd.R_alloc | apply Kd.R_drewN | apply Kd.R_drew)); (first | exact HO189.out | exact Kd.R_mono HO189.out (fun _ _ => trivial) | exact Kd.R_mono HO189.out (fun _ hk => hk.1))) hb); have n2_ := Aside0.mk (Kd.R_below (by (with_reducible repeat (first | apply Kd.R_alloc | apply Kd.R_drewN | apply Kd.R_drew)); (first | exact HO192.out | exact Kd.R_mono HO192.out (fun _ _ => trivial) | exact Kd.R_mono HO192.out (fun _ hk => hk.1))) hb); have n3_ := Aside0.mk (Kd.R_below (by (with_reducible repeat (first | apply Kd.R_alloc | apply Kd.R_drewN | apply Kd.R_drew)); (first | exact HO195.out | exact Kd.R_mono HO195.out (fun _ _ => trivial) | exact Kd.R_mono HO195.out (fun _ hk => hk.1))) hb); have n4_ := Aside0.mk (below_step (by repeat (first | (with_reducible first | exact HB.out | apply below_alloc | apply pw_below_drewN | apply below_drew1) | exact HB.out)) hb); have n5_ := Aside0.mk (hbox); have n6_ := Aside0.mk ((by rw [hg]; exact (below_size (by repeat (first | (with_reducible first | exact HB.out | apply below_alloc | apply pw_below_drewN | apply below_drew1) | exact HB.out))) : w.heap.size ≤ gb197)); have n7_ := Aside0.mk ((by rw [hg]; exact (below_size (by repeat (first | (with_reducible first | exact HB.out | apply below_alloc | apply pw_below_drewN | apply below_drew1) | exact HB.out))) : w.heap.size ≤ gb197)); clear HO187; clear HO189; clear HO192; clear HO195; clear HB; have HO187 := n0_; have HO189 := n1_; have HO192 := n2_; have HO195 := n3_; have HB := n4_; have BK197 := n5_; have GW197 := n6_; have GE197 := n7_; clear n0_ n1_ n2_ n3_ n4_ n5_ n6_ n7_; clear hb hbox hg; obtain ⟨Ao69, co69, eo69⟩ := Kd.R_slice HO192.out; subst eo69; have hcz70_0 : w68.cell? ⟨gb197, 0, none⟩ = some (.slice none 0 0) := (blk_cell BK197.out 0).trans rfl; have hcz70_1 : w68.cell? ⟨gb197, 1, none⟩ = some (.slice none 0 0) := (blk_cell BK197.out 1).trans rfl; have hcz70_2 : w68.cell? ⟨gb197, 2, none⟩ = some (.int .i64 0) := (blk_cell BK197.out 2).trans rfl; have hfz70_0 := blk_frozen BK197.out 0; have hfz70_1 := blk_frozen BK197.out 1; have hfz70_2 := blk_frozen BK197.out 2; obtain ⟨Ao71, co71, eo71⟩ := Kd.R_slice HO195.out; subst eo71; obtain ⟨Ao72, co72, eo72⟩ := Kd.R_slice HO187.out; subst eo72) | ((with_reducible refine gate_callee (f := 19) rfl ?_); refine goesL_ (some 22) rfl rfl Tryd.func19 (by kernel_rfl) rfl #[.slice Ao72 t183.length co72, .slice Ao69 t190.length co69] rfl (by (try simp only [List.map_toArray, List.map_cons, List.map_nil]); first | done | rfl | (simp only [List.length_drop, List.length_take]; rfl)) ?_; (with_reducible refine (earshotref04_Same.calls k _ _ t183 _ _ t190 true _ ?side1 ?side2 ?side3 ?side4 A4.out).mono ?_); (case side1 => refine (Kd.R_reads' (e := 3) (base := w.heap.size) (ok := fun k_ => ((some k_ ≠ (v188 : Value).ownBlock ∧ some k_ ≠ (.slice Ao69 t190.length co69 : Value).ownBlock) ∧ some k_ ≠ (.slice Ao71 t193.length co71 : Value).ownBlock)) (n := t183.length) (c := co72) ?_).2.2; exact (by (with_reducible repeat (first | apply Kd.R_alloc | apply Kd.R_drewN | apply Kd.R_drew)); exact (Kd.R_mono (Kd.R_far (p := ⟨gb197, 2, none⟩) (Kd.R_far (p := ⟨gb197, 1, none⟩) (Kd.R_far (p := ⟨gb197, 0, none⟩) (Kd.R_types HO187.out BK197.out (by decide)) (fun _ hk => hk.2) (.slice Ao69 t190.length co69)) (fun _ hk => hk.2) (.slice Ao71 t193.length co71)) (fun _ hk => hk.2) (.int .i64 t196)) (fun _ h_ => h_.1)))); (case side2 => exact (Kd.R_reads' HO187.out).2.1); (case side3 => refine (Kd.R_reads' (e := 3) (base := w.heap.size) (ok := fun k_ => ((some k_ ≠ (.slice Ao71 t193.length co71 : Value).ownBlock ∧ some k_ ≠ (.slice Ao72 t183.length co72 : Value).ownBlock) ∧ some k_ ≠ (v188 : Value).ownBlock)) (n := t190.length) (c := co69) ?_).2.2; exact (by (with_reducible repeat (first | apply Kd.R_alloc | apply Kd.R_drewN | apply Kd.R_drew)); exact (Kd.R_mono (Kd.R_far (p := ⟨gb197, 2, none⟩) (Kd.R_far (p := ⟨gb197, 1, none⟩) (Kd.R_far (p := ⟨gb197, 0, none⟩) (Kd.R_types HO192.out BK197.out (by decide)) (fun _ hk => hk.2) (.slice Ao69 t190.length co69)) (fun _ hk => hk.2) (.slice Ao71 t193.length co71)) (fun _ hk => hk.2) (.int .i64 t196)) (fun _ h_ => h_.1)))); (case side4 => exact (Kd.R_reads' HO192.out).2.1); rintro e w' ⟨rfl, ⟨nd, rfl⟩⟩; refine ⟨_, rfl, ?_⟩; obtain ⟨Ao73, co73, eo73⟩ := Kd.R_slice HO189.out; subst eo73) | ((with_reducible refine gate_callee (f := 19) rfl ?_); refine goesL_ (some 26) rfl rfl Tryd.func19 (by kernel_rfl) rfl #[.slice Ao73 t184.length co73, .slice Ao71 t193.length co71] rfl (by (try simp only [List.map_toArray, List.map_cons, List.map_nil]); first | done | rfl | (simp only [List.length_drop, List.length_take]; rfl)) ?_; (with_reducible refine (earshotref04_Same.calls k _ _ t184 _ _ t193 true _ ?side1 ?side2 ?side3 ?side4 A5.out).mono ?_); (case side1 => refine (Kd.R_reads' (e := 3) (base := w.heap.size) (ok := fun k_ => ((some k_ ≠ (.slice Ao72 t183.length co72 : Value).ownBlock ∧ some k_ ≠ (.slice Ao69 t190.length co69 : Value).ownBlock) ∧ some k_ ≠ (.slice Ao71 t193.length co71 : Value).ownBlock)) (n := t184.length) (c := co73) ?_).2.2; exact (by (with_reducible repeat (first | apply Kd.R_alloc | apply Kd.R_drewN | apply Kd.R_drew)); exact (Kd.R_mono (Kd.R_far (p := ⟨gb197, 2, none⟩) (Kd.R_far (p := ⟨gb197, 1, none⟩) (Kd.R_far (p := ⟨gb197, 0, none⟩) (Kd.R_types HO189.out BK197.out (by decide)) (fun _ hk => hk.2) (.slice Ao69 t190.length co69)) (fun _ hk => hk.2) (.slice Ao71 t193.length co71)) (fun _ hk => hk.2) (.int .i64 t196)) (fun _ h_ => h_.1)))); (case side2 => exact (Kd.R_reads' HO189.out).2.1); (case side3 => refine (Kd.R_reads' (e := 3) (base := w.heap.size) (ok := fun k_ => ((some k_ ≠ (.slice Ao69 t190.length co69 : Value).ownBlock ∧ some k_ ≠ (.slice Ao72 t183.length co72 : Value).ownBlock) ∧ some k_ ≠ (.slice Ao73 t184.length co73 : Value).ownBlock)) (n := t193.length) (c := co71) ?_).2.2; exact (by (with_reducible repeat (first | apply Kd.R_alloc | apply Kd.R_drewN | apply Kd.R_drew)); exact (Kd.R_mono (Kd.R_far (p := ⟨gb197, 2, none⟩) (Kd.R_far (p := ⟨gb197, 1, none⟩) (Kd.R_far (p := ⟨gb197, 0, none⟩) (Kd.R_types HO195.out BK197.out (by decide)) (fun _ hk => hk.2) (.slice Ao69 t190.length co69)) (fun _ hk => hk.2) (.slice Ao71 t193.length co71)) (fun _ hk => hk.2) (.int .i64 t196)) (fun _ h_ => h_.1)))); (case side4 => exact (Kd.R_reads' HO195.out).2.1); rintro e w' ⟨rfl, ⟨nd, rfl⟩⟩; refine ⟨_, rfl, ?_⟩))
        have n0_ : Aside0 (Kd.R (Kd.int .i64) 3 (((w68.setCell ⟨gb197, 0, none⟩ (.slice Ao69 t190.length co69)).setCell ⟨gb197, 1, none⟩ (.slice Ao71 t193.length co71)).setCell ⟨gb197, 2, none⟩ (.int .i64 t196)) w.heap.size (fun k_ => some k_ ≠ (.slice Ao73 t184.length co73 : Value).ownBlock ∧ some k_ ≠ (.slice Ao69 t190.length co69 : Value).ownBlock ∧ some k_ ≠ (.slice Ao71 t193.length co71 : Value).ownBlock) (.slice Ao72 t183.length co72) t183) := ⟨by (with_reducible repeat (first | apply Kd.R_alloc | apply Kd.R_drewN | apply Kd.R_drew)); exact Kd.R_mono (Kd.R_far (p := ⟨gb197, 2, none⟩) (Kd.R_far (p := ⟨gb197, 1, none⟩) (Kd.R_far (p := ⟨gb197, 0, none⟩) (Kd.R_types HO187.out BK197.out (by decide)) (fun _ hk => hk.2) (.slice Ao69 t190.length co69)) (fun _ hk => hk.2) (.slice Ao71 t193.length co71)) (fun _ hk => hk.2) (.int .i64 t196)) (fun _ hk => ⟨hk.1.1.1, ⟨hk.1.1.2, hk.1.2⟩⟩)⟩
        have n1_ : Aside0 (Kd.R (Kd.int .i64) 3 (((w68.setCell ⟨gb197, 0, none⟩ (.slice Ao69 t190.length co69)).setCell ⟨gb197, 1, none⟩ (.slice Ao71 t193.length co71)).setCell ⟨gb197, 2, none⟩ (.int .i64 t196)) w.heap.size (fun k_ => some k_ ≠ (.slice Ao72 t183.length co72 : Value).ownBlock ∧ some k_ ≠ (.slice Ao69 t190.length co69 : Value).ownBlock ∧ some k_ ≠ (.slice Ao71 t193.length co71 : Value).ownBlock) (.slice Ao73 t184.length co73) t184) := ⟨by (with_reducible repeat (first | apply Kd.R_alloc | apply Kd.R_drewN | apply Kd.R_drew)); exact Kd.R_mono (Kd.R_far (p := ⟨gb197, 2, none⟩) (Kd.R_far (p := ⟨gb197, 1, none⟩) (Kd.R_far (p := ⟨gb197, 0, none⟩) (Kd.R_types HO189.out BK197.out (by decide)) (fun _ hk => hk.2) (.slice Ao69 t190.length co69)) (fun _ hk => hk.2) (.slice Ao71 t193.length co71)) (fun _ hk => hk.2) (.int .i64 t196)) (fun _ hk => ⟨hk.1.1.1, ⟨hk.1.1.2, hk.1.2⟩⟩)⟩
        have n2_ : Aside0 (Kd.R (Kd.int .i64) 3 (((w68.setCell ⟨gb197, 0, none⟩ (.slice Ao69 t190.length co69)).setCell ⟨gb197, 1, none⟩ (.slice Ao71 t193.length co71)).setCell ⟨gb197, 2, none⟩ (.int .i64 t196)) w.heap.size (fun k_ => some k_ ≠ (.slice Ao72 t183.length co72 : Value).ownBlock ∧ some k_ ≠ (.slice Ao73 t184.length co73 : Value).ownBlock ∧ some k_ ≠ (.slice Ao71 t193.length co71 : Value).ownBlock) (.slice Ao69 t190.length co69) t190) := ⟨by (with_reducible repeat (first | apply Kd.R_alloc | apply Kd.R_drewN | apply Kd.R_drew)); exact Kd.R_mono (Kd.R_far (p := ⟨gb197, 2, none⟩) (Kd.R_far (p := ⟨gb197, 1, none⟩) (Kd.R_far (p := ⟨gb197, 0, none⟩) (Kd.R_types HO192.out BK197.out (by decide)) (fun _ hk => hk.2) (.slice Ao69 t190.length co69)) (fun _ hk => hk.2) (.slice Ao71 t193.length co71)) (fun _ hk => hk.2) (.int .i64 t196)) (fun _ hk => ⟨hk.1.1.2, ⟨hk.1.2, hk.1.1.1⟩⟩)⟩
        have n3_ : Aside0 (Kd.R (Kd.int .i64) 3 (((w68.setCell ⟨gb197, 0, none⟩ (.slice Ao69 t190.length co69)).setCell ⟨gb197, 1, none⟩ (.slice Ao71 t193.length co71)).setCell ⟨gb197, 2, none⟩ (.int .i64 t196)) w.heap.size (fun k_ => some k_ ≠ (.slice Ao72 t183.length co72 : Value).ownBlock ∧ some k_ ≠ (.slice Ao73 t184.length co73 : Value).ownBlock ∧ some k_ ≠ (.slice Ao69 t190.length co69 : Value).ownBlock) (.slice Ao71 t193.length co71) t193) := ⟨by (with_reducible repeat (first | apply Kd.R_alloc | apply Kd.R_drewN | apply Kd.R_drew)); exact Kd.R_mono (Kd.R_far (p := ⟨gb197, 2, none⟩) (Kd.R_far (p := ⟨gb197, 1, none⟩) (Kd.R_far (p := ⟨gb197, 0, none⟩) (Kd.R_types HO195.out BK197.out (by decide)) (fun _ hk => hk.2) (.slice Ao69 t190.length co69)) (fun _ hk => hk.2) (.slice Ao71 t193.length co71)) (fun _ hk => hk.2) (.int .i64 t196)) (fun _ hk => ⟨hk.1.1.2, ⟨hk.1.2, hk.1.1.1⟩⟩)⟩
        have n4_ : Aside0 ((((w68.setCell ⟨gb197, 0, none⟩ (.slice Ao69 t190.length co69)).setCell ⟨gb197, 1, none⟩ (.slice Ao71 t193.length co71)).setCell ⟨gb197, 2, none⟩ (.int .i64 t196)).heap[gb197]? = some (.cells #[.slice Ao69 t190.length co69, .slice Ao71 t193.length co71, .int .i64 t196] 58 (0, 0))) := ⟨by (with_reducible repeat (first | refine blk_drewN ?_ _ | refine blk_drew ?_ | refine blk_alloc ?_ _)); refine blk_put (cs := #[.slice Ao69 t190.length co69, .slice Ao71 t193.length co71, .int .i64 0]) ?_ 2 _ rfl; (with_reducible repeat (first | refine blk_drewN ?_ _ | refine blk_drew ?_ | refine blk_alloc ?_ _)); refine blk_put (cs := #[.slice Ao69 t190.length co69, .slice none 0 0, .int .i64 0]) ?_ 1 _ rfl; (with_reducible repeat (first | refine blk_drewN ?_ _ | refine blk_drew ?_ | refine blk_alloc ?_ _)); refine blk_put (cs := #[.slice none 0 0, .slice none 0 0, .int .i64 0]) ?_ 0 _ rfl; (with_reducible repeat (first | refine blk_drewN ?_ _ | refine blk_drew ?_ | refine blk_alloc ?_ _)); exact BK197.out⟩
        have n5_ : Aside0 (Below w.heap.size w (((w68.setCell ⟨gb197, 0, none⟩ (.slice Ao69 t190.length co69)).setCell ⟨gb197, 1, none⟩ (.slice Ao71 t193.length co71)).setCell ⟨gb197, 2, none⟩ (.int .i64 t196))) := ⟨by repeat (first | (with_reducible first | exact HB.out | apply below_alloc | apply pw_below_drewN | apply below_drew1 | refine below_set ?_ GE197.out) | exact HB.out)⟩
        (try clear HO187)
        (try clear HO189)
        (try clear HO192)
        (try clear HO195)
        (try clear BK197)
        (try clear HB)
        generalize (((w68.setCell ⟨gb197, 0, none⟩ (.slice Ao69 t190.length co69)).setCell ⟨gb197, 1, none⟩ (.slice Ao71 t193.length co71)).setCell ⟨gb197, 2, none⟩ (.int .i64 t196)) = w74 at n0_ n1_ n2_ n3_ n4_ n5_ ⊢
        have HO187 := n0_
        have HO189 := n1_
        have HO192 := n2_
        have HO195 := n3_
        have BK197 := n4_
        have HB := n5_
        clear n0_ n1_ n2_ n3_ n4_ n5_
        (try (rw [drewN_self w74]; generalize hq_ : World.drewN w74 _ = w74; have n0_ : Aside0 (Kd.R (Kd.int .i64) 3 w74 w.heap.size (fun k_ => some k_ ≠ (.slice Ao73 t184.length co73 : Value).ownBlock ∧ some k_ ≠ (.slice Ao69 t190.length co69 : Value).ownBlock ∧ some k_ ≠ (.slice Ao71 t193.length co71 : Value).ownBlock) (.slice Ao72 t183.length co72) t183) := ⟨by rw [← hq_]; exact (by (with_reducible repeat (first | apply Kd.R_alloc | apply Kd.R_drewN | apply Kd.R_drew)); (first | exact HO187.out | exact Kd.R_mono HO187.out (fun _ _ => trivial) | exact Kd.R_mono HO187.out (fun _ hk => hk.1)))⟩; have n1_ : Aside0 (Kd.R (Kd.int .i64) 3 w74 w.heap.size (fun k_ => some k_ ≠ (.slice Ao72 t183.length co72 : Value).ownBlock ∧ some k_ ≠ (.slice Ao69 t190.length co69 : Value).ownBlock ∧ some k_ ≠ (.slice Ao71 t193.length co71 : Value).ownBlock) (.slice Ao73 t184.length co73) t184) := ⟨by rw [← hq_]; exact (by (with_reducible repeat (first | apply Kd.R_alloc | apply Kd.R_drewN | apply Kd.R_drew)); (first | exact HO189.out | exact Kd.R_mono HO189.out (fun _ _ => trivial) | exact Kd.R_mono HO189.out (fun _ hk => hk.1)))⟩; have n2_ : Aside0 (Kd.R (Kd.int .i64) 3 w74 w.heap.size (fun k_ => some k_ ≠ (.slice Ao72 t183.length co72 : Value).ownBlock ∧ some k_ ≠ (.slice Ao73 t184.length co73 : Value).ownBlock ∧ some k_ ≠ (.slice Ao71 t193.length co71 : Value).ownBlock) (.slice Ao69 t190.length co69) t190) := ⟨by rw [← hq_]; exact (by (with_reducible repeat (first | apply Kd.R_alloc | apply Kd.R_drewN | apply Kd.R_drew)); (first | exact HO192.out | exact Kd.R_mono HO192.out (fun _ _ => trivial) | exact Kd.R_mono HO192.out (fun _ hk => hk.1)))⟩; have n3_ : Aside0 (Kd.R (Kd.int .i64) 3 w74 w.heap.size (fun k_ => some k_ ≠ (.slice Ao72 t183.length co72 : Value).ownBlock ∧ some k_ ≠ (.slice Ao73 t184.length co73 : Value).ownBlock ∧ some k_ ≠ (.slice Ao69 t190.length co69 : Value).ownBlock) (.slice Ao71 t193.length co71) t193) := ⟨by rw [← hq_]; exact (by (with_reducible repeat (first | apply Kd.R_alloc | apply Kd.R_drewN | apply Kd.R_drew)); (first | exact HO195.out | exact Kd.R_mono HO195.out (fun _ _ => trivial) | exact Kd.R_mono HO195.out (fun _ hk => hk.1)))⟩; have n4_ : Aside0 (w74.heap[gb197]? = some (.cells #[.slice Ao69 t190.length co69, .slice Ao71 t193.length co71, .int .i64 t196] 58 (0, 0))) := ⟨by rw [← hq_]; exact (by (with_reducible repeat (first | refine blk_drewN ?_ _ | refine blk_drew ?_ | refine blk_alloc ?_ _)); exact BK197.out)⟩; have n5_ : Aside0 (Below w.heap.size w w74) := ⟨by rw [← hq_]; exact (by repeat (first | (with_reducible first | exact HB.out | apply below_alloc | apply pw_below_drewN | apply below_drew1 | refine below_set ?_ GE197.out) | exact HB.out))⟩; clear HO187 HO189 HO192 HO195 BK197 HB hq_; have HO187 := n0_; have HO189 := n1_; have HO192 := n2_; have HO195 := n3_; have BK197 := n4_; have HB := n5_; clear n0_ n1_ n2_ n3_ n4_ n5_))
        have n0_ := Aside0.mk (Kd.R_drew HO187.out)
        have n1_ := Aside0.mk (Kd.R_drew HO189.out)
        have n2_ := Aside0.mk (Kd.R_drew HO192.out)
        have n3_ := Aside0.mk (Kd.R_drew HO195.out)
        have n4_ := Aside0.mk (blk_drew BK197.out)
        have n5_ := Aside0.mk (below_drew1 HB.out)
        clear HO187
        clear HO189
        clear HO192
        clear HO195
        clear BK197
        clear HB
        have HO187 := n0_
        have HO189 := n1_
        have HO192 := n2_
        have HO195 := n3_
        have BK197 := n4_
        have HB := n5_
        clear n0_ n1_ n2_ n3_ n4_ n5_
        refine start_ (n := 10) (S := fun w' => w'.cell? ⟨gb197, 0, none⟩ = some (.slice Ao69 t190.length co69) ∧ w'.cell? ⟨gb197, 1, none⟩ = some (.slice Ao71 t193.length co71) ∧ w'.cell? ⟨gb197, 2, none⟩ = some (.int .i64 t196)) (ds := []) #[false, false, false, false, false, false, false, false, false, false] (by kernel_rfl) rfl rfl ⟨(blk_cell BK197.out 0).trans rfl, (blk_cell BK197.out 1).trans rfl, (blk_cell BK197.out 2).trans rfl⟩ (fun hHeld => ?_); refine with_tabW earshotlaw10_bins.tab5 earshotlaw10_bins.bits5 (fun HT_ HW_ => ?_)
        generalize w74.drew = w75 at HO187 HO189 HO192 HO195 BK197 HB hHeld ⊢
        refine pure_ (i := 0) (N := some 27) (v := ?_) (a' := ?_) #[true, false, false, false, false, false, false, false, false, false] rfl rfl (any_of HT_.out (by kernel_rfl)) (fun _ _ _ h => h) (Or.inl ⟨by rfl, ?_⟩) ?_ ?_
        rotate_left
        · intro w'
          go_simp
          with_reducible rfl
        rotate_left
        · simp only [Act.put, List.setIfInBounds_toArray, List.set_cons_zero, List.set_cons_succ, i64_w, i32_w]
          rfl
        refine pure_ (i := 1) (N := some 28) (v := ?_) (a' := ?_) #[true, true, false, false, false, false, false, false, false, false] rfl rfl (any_of HT_.out (by kernel_rfl)) (fun _ _ _ h => h) (Or.inl ⟨by rfl, ?_⟩) ?_ ?_
        rotate_left
        · intro w'
          go_simp
          with_reducible rfl
        rotate_left
        · simp only [Act.put, List.setIfInBounds_toArray, List.set_cons_zero, List.set_cons_succ, i64_w, i32_w]
          rfl
        refine pure_ (i := 3) (N := some 30) (v := ?_) (a' := ?_) #[true, true, false, true, false, false, false, false, false, false] rfl rfl (any_of HT_.out (by kernel_rfl)) (fun _ _ _ h => h) (Or.inl ⟨by rfl, ?_⟩) ?_ ?_
        rotate_left
        · intro w'
          go_simp
          with_reducible rfl
        rotate_left
        · simp only [Act.put, List.setIfInBounds_toArray, List.set_cons_zero, List.set_cons_succ, i64_w, i32_w]
          rfl
        refine pure_ (i := 5) (N := some 32) (v := ?_) (a' := ?_) #[true, true, false, true, false, true, false, false, false, false] rfl rfl (any_of HT_.out (by kernel_rfl)) (fun _ _ _ h => h) (Or.inl ⟨by rfl, ?_⟩) ?_ ?_
        rotate_left
        · intro w'
          go_simp
          with_reducible rfl
        rotate_left
        · simp only [Act.put, List.setIfInBounds_toArray, List.set_cons_zero, List.set_cons_succ, i64_w, i32_w]
          rfl
        refine take_ (i := 4) (N := some 31) (v := ?_) (a' := ?_) #[true, true, false, true, true, true, false, false, false, false] rfl rfl (take_ofW HT_.out HW_.out (by kernel_rfl)) (fun _ _ _ h => h) (Or.inl ⟨by rfl, ?_⟩) hHeld ?_ ?_
        rotate_left
        · rintro w' ⟨s0, s1, s2⟩
          go_simp
          with_reducible rfl
        rotate_left
        · simp only [Act.put, List.setIfInBounds_toArray, List.set_cons_zero, List.set_cons_succ, i64_w, i32_w]
          rfl
        refine take_ (i := 6) (N := some 33) (v := ?_) (a' := ?_) #[true, true, false, true, true, true, true, false, false, false] rfl rfl (take_ofW HT_.out HW_.out (by kernel_rfl)) (fun _ _ _ h => h) (Or.inl ⟨by rfl, ?_⟩) hHeld ?_ ?_
        rotate_left
        · rintro w' ⟨s0, s1, s2⟩
          go_simp
          with_reducible rfl
        rotate_left
        · simp only [Act.put, List.setIfInBounds_toArray, List.set_cons_zero, List.set_cons_succ, i64_w, i32_w]
          rfl
        refine one_ (i := 2) (N := some 29) #[true, true, true, true, true, true, true, false, false, false] rfl rfl (one_of HT_.out (by kernel_rfl)) (by decide) (fun K hK => ?_)
        refine goes_ Tryd.func52 (by kernel_rfl) rfl #[.slice Ao72 t183.length co72, .slice Ao73 t184.length co73] (by first | rfl | exact wanted_on rfl rfl rfl (by first | assumption | rfl | (simp [*]; done))) rfl rfl (by (try simp only [List.map_toArray, List.map_cons, List.map_nil]); first | done | rfl | (simp only [List.length_drop, List.length_take]; rfl)) ?_
        with_reducible refine (fft_Power.calls _ _ t183 _ _ t184 t200 _ ?side1 ?side2 ?side3 ?side4 A6.out).mono ?_
        (case side1 => repeat (first | exact (Kd.R_reads' HO187.out).2.2 | (with_reducible refine Kd.C_alloc ?_ _) | (with_reducible refine Kd.C_drewN ?_ _) | (with_reducible refine Kd.C_drew ?_)))
        (case side2 => exact (Kd.R_reads' HO187.out).2.1)
        (case side3 => repeat (first | exact (Kd.R_reads' HO189.out).2.2 | (with_reducible refine Kd.C_alloc ?_ _) | (with_reducible refine Kd.C_drewN ?_ _) | (with_reducible refine Kd.C_drew ?_)))
        (case side4 => exact (Kd.R_reads' HO189.out).2.1)
        rintro e w76 ⟨v201, rfl, ho0, hb⟩
        refine ⟨_, rfl, ?_⟩
        have n0_ := Aside0.mk (Kd.R_elder' (by (with_reducible repeat (first | apply Kd.R_alloc | apply Kd.R_drewN | apply Kd.R_drew)); (first | exact HO187.out | exact Kd.R_mono HO187.out (fun _ _ => trivial) | exact Kd.R_mono HO187.out (fun _ hk => hk.1))) (Kd.R_base ho0) hb)
        have n1_ := Aside0.mk (Kd.R_elder' (by (with_reducible repeat (first | apply Kd.R_alloc | apply Kd.R_drewN | apply Kd.R_drew)); (first | exact HO189.out | exact Kd.R_mono HO189.out (fun _ _ => trivial) | exact Kd.R_mono HO189.out (fun _ hk => hk.1))) (Kd.R_base ho0) hb)
        have n2_ := Aside0.mk (Kd.R_elder' (by (with_reducible repeat (first | apply Kd.R_alloc | apply Kd.R_drewN | apply Kd.R_drew)); (first | exact HO192.out | exact Kd.R_mono HO192.out (fun _ _ => trivial) | exact Kd.R_mono HO192.out (fun _ hk => hk.1))) (Kd.R_base ho0) hb)
        have n3_ := Aside0.mk (Kd.R_elder' (by (with_reducible repeat (first | apply Kd.R_alloc | apply Kd.R_drewN | apply Kd.R_drew)); (first | exact HO195.out | exact Kd.R_mono HO195.out (fun _ _ => trivial) | exact Kd.R_mono HO195.out (fun _ hk => hk.1))) (Kd.R_base ho0) hb)
        have n4_ := Aside0.mk (Kd.R_lower (Kd.R_new' (Kd.R_new' (Kd.R_new' (Kd.R_new' ho0 (Kd.R_lt (by (with_reducible repeat (first | apply Kd.R_alloc | apply Kd.R_drewN | apply Kd.R_drew)); (first | exact HO187.out | exact Kd.R_mono HO187.out (fun _ _ => trivial) | exact Kd.R_mono HO187.out (fun _ hk => hk.1))))) (Kd.R_lt (by (with_reducible repeat (first | apply Kd.R_alloc | apply Kd.R_drewN | apply Kd.R_drew)); (first | exact HO189.out | exact Kd.R_mono HO189.out (fun _ _ => trivial) | exact Kd.R_mono HO189.out (fun _ hk => hk.1))))) (Kd.R_lt (by (with_reducible repeat (first | apply Kd.R_alloc | apply Kd.R_drewN | apply Kd.R_drew)); (first | exact HO192.out | exact Kd.R_mono HO192.out (fun _ _ => trivial) | exact Kd.R_mono HO192.out (fun _ hk => hk.1))))) (Kd.R_lt (by (with_reducible repeat (first | apply Kd.R_alloc | apply Kd.R_drewN | apply Kd.R_drew)); (first | exact HO195.out | exact Kd.R_mono HO195.out (fun _ _ => trivial) | exact Kd.R_mono HO195.out (fun _ hk => hk.1))))) (below_size (by repeat (first | (with_reducible first | exact HB.out | apply below_alloc | apply pw_below_drewN | apply below_drew1 | refine below_set ?_ GE197.out) | exact HB.out))))
        have n5_ := Aside0.mk (blk_below (g := gb197) (o := .cells #[.slice Ao69 t190.length co69, .slice Ao71 t193.length co71, .int .i64 t196] 58 (0, 0)) (by (with_reducible repeat (first | refine blk_drewN ?_ _ | refine blk_drew ?_ | refine blk_alloc ?_ _)); exact BK197.out) hb)
        have n6_ := Aside0.mk (below_step (by repeat (first | (with_reducible first | exact HB.out | apply below_alloc | apply pw_below_drewN | apply below_drew1 | refine below_set ?_ GE197.out) | exact HB.out)) hb)
        clear HO187
        clear HO189
        clear HO192
        clear HO195
        clear BK197
        clear HB
        have HO187 := n0_
        have HO189 := n1_
        have HO192 := n2_
        have HO195 := n3_
        have HO202 := n4_
        have BK197 := n5_
        have HB := n6_
        clear n0_ n1_ n2_ n3_ n4_ n5_ n6_
        (try clear hb)
        (try clear hb2)
        (try clear hk)
        (try clear hi)
        (try clear ho0)
        refine hK.out _ _ ⟨(blk_cell BK197.out 0).trans rfl, (blk_cell BK197.out 1).trans rfl, (blk_cell BK197.out 2).trans rfl⟩ (fun hHeld => ?_)
        clear hK K
        refine norm_ (a' := ?_) ?_ ?_
        rotate_left
        · show Act.put _ (some 29) _ = _
          simp only [Act.put, List.setIfInBounds_toArray, List.set_cons_zero, List.set_cons_succ, i64_w, i32_w]
          rfl
        refine one_ (i := 7) (N := some 34) #[true, true, true, true, true, true, true, true, false, false] rfl rfl (one_of HT_.out (by kernel_rfl)) (by decide) (fun K hK => ?_)
        refine goes_ Tryd.func53 (by kernel_rfl) rfl #[.slice Ao69 t190.length co69, .slice Ao71 t193.length co71] (by first | rfl | exact wanted_on rfl rfl rfl (by first | assumption | rfl | (simp [*]; done))) rfl rfl (by (try simp only [List.map_toArray, List.map_cons, List.map_nil]); first | done | rfl | (simp only [List.length_drop, List.length_take]; rfl)) ?_
        with_reducible refine (earshotref10_Power.calls k _ _ t190 _ _ t193 t203 _ ?side1 ?side2 ?side3 ?side4 A7.out).mono ?_
        (case side1 => repeat (first | exact (Kd.R_reads' HO192.out).2.2 | (with_reducible refine Kd.C_alloc ?_ _) | (with_reducible refine Kd.C_drewN ?_ _) | (with_reducible refine Kd.C_drew ?_)))
        (case side2 => exact (Kd.R_reads' HO192.out).2.1)
        (case side3 => repeat (first | exact (Kd.R_reads' HO195.out).2.2 | (with_reducible refine Kd.C_alloc ?_ _) | (with_reducible refine Kd.C_drewN ?_ _) | (with_reducible refine Kd.C_drew ?_)))
        (case side4 => exact (Kd.R_reads' HO195.out).2.1)
        rintro e w77 ⟨v204, rfl, ho0, hb⟩
        refine ⟨_, rfl, ?_⟩
        have n0_ := Aside0.mk (Kd.R_elder' (by (with_reducible repeat (first | apply Kd.R_alloc | apply Kd.R_drewN | apply Kd.R_drew)); (first | exact HO187.out | exact Kd.R_mono HO187.out (fun _ _ => trivial) | exact Kd.R_mono HO187.out (fun _ hk => hk.1))) (Kd.R_base ho0) hb)
        have n1_ := Aside0.mk (Kd.R_elder' (by (with_reducible repeat (first | apply Kd.R_alloc | apply Kd.R_drewN | apply Kd.R_drew)); (first | exact HO189.out | exact Kd.R_mono HO189.out (fun _ _ => trivial) | exact Kd.R_mono HO189.out (fun _ hk => hk.1))) (Kd.R_base ho0) hb)
        have n2_ := Aside0.mk (Kd.R_elder' (by (with_reducible repeat (first | apply Kd.R_alloc | apply Kd.R_drewN | apply Kd.R_drew)); (first | exact HO192.out | exact Kd.R_mono HO192.out (fun _ _ => trivial) | exact Kd.R_mono HO192.out (fun _ hk => hk.1))) (Kd.R_base ho0) hb)
        have n3_ := Aside0.mk (Kd.R_elder' (by (with_reducible repeat (first | apply Kd.R_alloc | apply Kd.R_drewN | apply Kd.R_drew)); (first | exact HO195.out | exact Kd.R_mono HO195.out (fun _ _ => trivial) | exact Kd.R_mono HO195.out (fun _ hk => hk.1))) (Kd.R_base ho0) hb)
        have n4_ := Aside0.mk (Kd.R_elder' (by (with_reducible repeat (first | apply Kd.R_alloc | apply Kd.R_drewN | apply Kd.R_drew)); (first | exact HO202.out | exact Kd.R_mono HO202.out (fun _ _ => trivial) | exact Kd.R_mono HO202.out (fun _ hk => hk.1))) (Kd.R_base ho0) hb)
        have n5_ := Aside0.mk (Kd.R_lower (Kd.R_new' (Kd.R_new' (Kd.R_new' (Kd.R_new' (Kd.R_new' ho0 (Kd.R_lt (by (with_reducible repeat (first | apply Kd.R_alloc | apply Kd.R_drewN | apply Kd.R_drew)); (first | exact HO187.out | exact Kd.R_mono HO187.out (fun _ _ => trivial) | exact Kd.R_mono HO187.out (fun _ hk => hk.1))))) (Kd.R_lt (by (with_reducible repeat (first | apply Kd.R_alloc | apply Kd.R_drewN | apply Kd.R_drew)); (first | exact HO189.out | exact Kd.R_mono HO189.out (fun _ _ => trivial) | exact Kd.R_mono HO189.out (fun _ hk => hk.1))))) (Kd.R_lt (by (with_reducible repeat (first | apply Kd.R_alloc | apply Kd.R_drewN | apply Kd.R_drew)); (first | exact HO192.out | exact Kd.R_mono HO192.out (fun _ _ => trivial) | exact Kd.R_mono HO192.out (fun _ hk => hk.1))))) (Kd.R_lt (by (with_reducible repeat (first | apply Kd.R_alloc | apply Kd.R_drewN | apply Kd.R_drew)); (first | exact HO195.out | exact Kd.R_mono HO195.out (fun _ _ => trivial) | exact Kd.R_mono HO195.out (fun _ hk => hk.1))))) (Kd.R_lt (by (with_reducible repeat (first | apply Kd.R_alloc | apply Kd.R_drewN | apply Kd.R_drew)); (first | exact HO202.out | exact Kd.R_mono HO202.out (fun _ _ => trivial) | exact Kd.R_mono HO202.out (fun _ hk => hk.1))))) (below_size (by repeat (first | (with_reducible first | exact HB.out | apply below_alloc | apply pw_below_drewN | apply below_drew1 | refine below_set ?_ GE197.out) | exact HB.out))))
        have n6_ := Aside0.mk (blk_below (g := gb197) (o := .cells #[.slice Ao69 t190.length co69, .slice Ao71 t193.length co71, .int .i64 t196] 58 (0, 0)) (by (with_reducible repeat (first | refine blk_drewN ?_ _ | refine blk_drew ?_ | refine blk_alloc ?_ _)); exact BK197.out) hb)
        have n7_ := Aside0.mk (below_step (by repeat (first | (with_reducible first | exact HB.out | apply below_alloc | apply pw_below_drewN | apply below_drew1 | refine below_set ?_ GE197.out) | exact HB.out)) hb)
        clear HO187
        clear HO189
        clear HO192
        clear HO195
        clear HO202
        clear BK197
        clear HB
        have HO187 := n0_
        have HO189 := n1_
        have HO192 := n2_
        have HO195 := n3_
        have HO202 := n4_
        have HO205 := n5_
        have BK197 := n6_
        have HB := n7_
        clear n0_ n1_ n2_ n3_ n4_ n5_ n6_ n7_
        (try clear hb)
        (try clear hb2)
        (try clear hk)
        (try clear hi)
        (try clear ho0)
        obtain ⟨Ao78, co78, eo78⟩ := Kd.R_slice HO202.out
        (first | subst eo78 | (injection eo78 with f1_ f2_ f3_; have f4_ := f1_.symm; have f5_ := f3_.symm; clear f1_ f2_ f3_; subst f4_; subst f5_))
        obtain ⟨Ao79, co79, eo79⟩ := Kd.R_slice HO205.out
        (first | subst eo79 | (injection eo79 with f1_ f2_ f3_; have f4_ := f1_.symm; have f5_ := f3_.symm; clear f1_ f2_ f3_; subst f4_; subst f5_))
        refine hK.out _ _ ⟨(blk_cell BK197.out 0).trans rfl, (blk_cell BK197.out 1).trans rfl, (blk_cell BK197.out 2).trans rfl⟩ (fun hHeld => ?_)
        clear hK K
        refine norm_ (a' := ?_) ?_ ?_
        rotate_left
        · show Act.put _ (some 34) _ = _
          simp only [Act.put, List.setIfInBounds_toArray, List.set_cons_zero, List.set_cons_succ, i64_w, i32_w]
          rfl
        refine one_ (i := 8) (N := some 35) #[true, true, true, true, true, true, true, true, true, false] rfl rfl (one_of HT_.out (by kernel_rfl)) (by decide) (fun K hK => ?_)
        refine goes_ Tryd.func19 (by kernel_rfl) rfl #[.slice Ao78 t200.length co78, .slice Ao79 t203.length co79] (by first | rfl | exact wanted_on rfl rfl rfl (by first | assumption | rfl | (simp [*]; done))) rfl rfl (by (try simp only [List.map_toArray, List.map_cons, List.map_nil]); first | done | rfl | (simp only [List.length_drop, List.length_take]; rfl)) ?_
        with_reducible refine (earshotref04_Same.calls k _ _ t200 _ _ t203 false _ ?side1 ?side2 ?side3 ?side4 A8.out).mono ?_
        (case side1 => repeat (first | exact (Kd.R_reads' HO202.out).2.2 | (with_reducible refine Kd.C_alloc ?_ _) | (with_reducible refine Kd.C_drewN ?_ _) | (with_reducible refine Kd.C_drew ?_)))
        (case side2 => exact (Kd.R_reads' HO202.out).2.1)
        (case side3 => repeat (first | exact (Kd.R_reads' HO205.out).2.2 | (with_reducible refine Kd.C_alloc ?_ _) | (with_reducible refine Kd.C_drewN ?_ _) | (with_reducible refine Kd.C_drew ?_)))
        (case side4 => exact (Kd.R_reads' HO205.out).2.1)
        rintro e w' ⟨rfl, ⟨nd, rfl⟩⟩
        refine ⟨_, rfl, ?_⟩
        refine hK.out _ _ ⟨(blk_cell BK197.out 0).trans rfl, (blk_cell BK197.out 1).trans rfl, (blk_cell BK197.out 2).trans rfl⟩ (fun hHeld => ?_)
        clear hK K
        refine norm_ (a' := ?_) ?_ ?_
        rotate_left
        · show Act.put _ (some 35) _ = _
          simp only [Act.put, List.setIfInBounds_toArray, List.set_cons_zero, List.set_cons_succ, i64_w, i32_w]
          rfl
        refine pure_ (i := 9) (N := some 9) (v := ?_) (a' := ?_) #[true, true, true, true, true, true, true, true, true, true] rfl rfl (any_of HT_.out (by kernel_rfl)) (fun _ _ _ h => h) (Or.inl ⟨by rfl, ?_⟩) ?_ ?_
        rotate_left
        · intro w'
          go_simp
          with_reducible rfl
        rotate_left
        · simp only [Act.put, List.setIfInBounds_toArray, List.set_cons_zero, List.set_cons_succ, i64_w, i32_w]
          rfl
        refine done_ (done_of HT_.out (by kernel_rfl)) ?_
        try go_wp2_with (first | ((with_reducible refine gate_callee (f := 47) rfl ?_); refine goesL_ (some 38) rfl rfl Tryd.func47 (by kernel_rfl) rfl #[.int .i64 (l0.length : Int)] rfl (by (try simp only [List.map_toArray, List.map_cons, List.map_nil]); first | done | rfl | (simp only [List.length_drop, List.length_take]; rfl)) ?_; (with_reducible refine (earshotref10_May.calls (l0.length : Int) t207 _ A9.out).mono ?_); rintro e w' ⟨rfl, ⟨nd, rfl⟩⟩; refine ⟨_, rfl, ?_⟩))
        go_ret
        exact ⟨by first | rfl | (simp [errW_none, errW_some] <;> rfl) | (simp [*, errW_none, errW_some] <;> rfl), by repeat (first | (with_reducible first | exact HB.out | apply below_alloc | apply pw_below_drewN | apply below_drew1 | refine below_set ?_ GE197.out) | exact HB.out)⟩
    · replace c11 := Bool.eq_false_iff.mpr c11
      subst c11
      have H1 : (some false) = some r := by rw [if_neg (show ¬ (false = true) by decide)] at H; exact H
      clear H
      have H := H1
      clear H1
      obtain rfl := Option.some.inj H
      go_enter Tryd.func31, Tryd.ntmps31
      try go_wp2_with (first | ((with_reducible refine gate_callee (f := 29) rfl ?_); refine goesL_ (some 13) rfl rfl Tryd.func29 (by kernel_rfl) rfl #[.slice A0 l0.length c0] rfl (by (try simp only [List.map_toArray, List.map_cons, List.map_nil]); first | done | rfl | (simp only [List.length_drop, List.length_take]; rfl)) ?_; (with_reducible refine (fft_Bins.calls _ _ l0 t183 t184 t185 _ ?side1 ?side2 ?side3 A2.out).mono ?_); (case side1 => exact GlobA.below HG.out (by repeat (first | (with_reducible first | exact HB.out | apply below_alloc | apply pw_below_drewN | apply below_drew1) | exact HB.out))); (case side2 => repeat (first | exact HR0.out | (with_reducible refine Kd.C_alloc ?_ _) | (with_reducible refine Kd.C_drewN ?_ _) | (with_reducible refine Kd.C_drew ?_))); (case side3 => exact HC0.out); rintro e w80 ⟨v186, v188, rfl, ho0, ho1, hb⟩; refine ⟨_, rfl, ?_⟩; have n0_ := Aside0.mk (Kd.R_lower ho0 (below_size (by repeat (first | (with_reducible first | exact HB.out | apply below_alloc | apply pw_below_drewN | apply below_drew1) | exact HB.out)))); have n1_ := Aside0.mk (Kd.R_lower ho1 (below_size (by repeat (first | (with_reducible first | exact HB.out | apply below_alloc | apply pw_below_drewN | apply below_drew1) | exact HB.out)))); have n2_ := Aside0.mk (below_step (by repeat (first | (with_reducible first | exact HB.out | apply below_alloc | apply pw_below_drewN | apply below_drew1) | exact HB.out)) hb); clear HB; have HO187 := n0_; have HO189 := n1_; have HB := n2_; clear n0_ n1_ n2_; (try clear hb); (try clear hb2); (try clear hk); (try clear hi); (try clear ho0); (try clear ho1)) | ((with_reducible refine gate_callee (f := 51) rfl ?_); refine goesL_ (some 18) rfl rfl Tryd.func51 (by kernel_rfl) rfl #[.slice A0 l0.length c0] rfl (by (try simp only [List.map_toArray, List.map_cons, List.map_nil]); first | done | rfl | (simp only [List.length_drop, List.length_take]; rfl)) ?_; (with_reducible refine (earshotref10_Bins.calls k _ _ l0 t190 t193 t196 _ ?side1 ?side2 A3.out).mono ?_); (case side1 => repeat (first | exact (Kd.C_below HR0.out HB.out) | (with_reducible refine Kd.C_alloc ?_ _) | (with_reducible refine Kd.C_drewN ?_ _) | (with_reducible refine Kd.C_drew ?_))); (case side2 => exact HC0.out); rintro e w81 ⟨v191, v194, rfl, ho0, ho1, hb⟩; refine ⟨_, rfl, ?_⟩; have n0_ := Aside0.mk (Kd.R_mono (Kd.R_told (Kd.R_told (Kd.R_old (by (with_reducible repeat (first | apply Kd.R_alloc | apply Kd.R_drewN | apply Kd.R_drew)); (first | exact HO187.out | exact Kd.R_mono HO187.out (fun _ _ => trivial) | exact Kd.R_mono HO187.out (fun _ hk => hk.1))) hb) (Kd.R_base ho0)) (Kd.R_base ho1)) (fun _ h_ => h_.1)); have n1_ := Aside0.mk (Kd.R_mono (Kd.R_told (Kd.R_told (Kd.R_old (by (with_reducible repeat (first | apply Kd.R_alloc | apply Kd.R_drewN | apply Kd.R_drew)); (first | exact HO189.out | exact Kd.R_mono HO189.out (fun _ _ => trivial) | exact Kd.R_mono HO189.out (fun _ hk => hk.1))) hb) (Kd.R_base ho0)) (Kd.R_base ho1)) (fun _ h_ => h_.1)); have n2_ := Aside0.mk (Kd.R_lower (Kd.R_new' (Kd.R_new' ho0 (Kd.R_lt (by (with_reducible repeat (first | apply Kd.R_alloc | apply Kd.R_drewN | apply Kd.R_drew)); (first | exact HO187.out | exact Kd.R_mono HO187.out (fun _ _ => trivial) | exact Kd.R_mono HO187.out (fun _ hk => hk.1))))) (Kd.R_lt (by (with_reducible repeat (first | apply Kd.R_alloc | apply Kd.R_drewN | apply Kd.R_drew)); (first | exact HO189.out | exact Kd.R_mono HO189.out (fun _ _ => trivial) | exact Kd.R_mono HO189.out (fun _ hk => hk.1))))) (below_size (by repeat (first | (with_reducible first | exact HB.out | apply below_alloc | apply pw_below_drewN | apply below_drew1) | exact HB.out)))); have n3_ := Aside0.mk (Kd.R_lower (Kd.R_new' (Kd.R_new' ho1 (Kd.R_lt (by (with_reducible repeat (first | apply Kd.R_alloc | apply Kd.R_drewN | apply Kd.R_drew)); (first | exact HO187.out | exact Kd.R_mono HO187.out (fun _ _ => trivial) | exact Kd.R_mono HO187.out (fun _ hk => hk.1))))) (Kd.R_lt (by (with_reducible repeat (first | apply Kd.R_alloc | apply Kd.R_drewN | apply Kd.R_drew)); (first | exact HO189.out | exact Kd.R_mono HO189.out (fun _ _ => trivial) | exact Kd.R_mono HO189.out (fun _ hk => hk.1))))) (below_size (by repeat (first | (with_reducible first | exact HB.out | apply below_alloc | apply pw_below_drewN | apply below_drew1) | exact HB.out)))); have n4_ := Aside0.mk (below_step (by repeat (first | (with_reducible first | exact HB.out | apply below_alloc | apply pw_below_drewN | apply below_drew1) | exact HB.out)) hb); clear HO187; clear HO189; clear HB; have HO187 := n0_; have HO189 := n1_; have HO192 := n2_; have HO195 := n3_; have HB := n4_; clear n0_ n1_ n2_ n3_ n4_; (try clear hb); (try clear hb2); (try clear hk); (try clear hi); (try clear ho0); (try clear ho1)) | ((with_reducible refine gate_dst (N := 6) rfl ?_); (try (refine gate_guard (by rfl) ?_; dsimp only)); refine box_event ?hg (N := 6) ?hd (cs := #[.slice none 0 0, .slice none 0 0, .int .i64 0]) (t := 58) ?hr ?_; (case hd => rfl); (case hg => first | rfl | exact wanted_on rfl rfl rfl (by first | assumption | rfl | (simp [*]; done))); (case hr => first | (go_simp; done) | (go_simp; rfl)); intro gb197 hg w82 hbox hb; have n0_ := Aside0.mk (Kd.R_below (by (with_reducible repeat (first | apply Kd.R_alloc | apply Kd.R_drewN | apply Kd.R_drew)); (first | exact HO187.out | exact Kd.R_mono HO187.out (fun _ _ => trivial) | exact Kd.R_mono HO187.out (fun _ hk => hk.1))) hb); have n1_ := Aside0.mk (Kd.R_below (by (with_reducible repeat (first | apply Kd.R_alloc | apply Kd.R_drewN | apply Kd.R_drew)); (first | exact HO189.out | exact Kd.R_mono HO189.out (fun _ _ => trivial) | exact Kd.R_mono HO189.out (fun _ hk => hk.1))) hb); have n2_ := Aside0.mk (Kd.R_below (by (with_reducible repeat (first | apply Kd.R_alloc | apply Kd.R_drewN | apply Kd.R_drew)); (first | exact HO192.out | exact Kd.R_mono HO192.out (fun _ _ => trivial) | exact Kd.R_mono HO192.out (fun _ hk => hk.1))) hb); have n3_ := Aside0.mk (Kd.R_below (by (with_reducible repeat (first | apply Kd.R_alloc | apply Kd.R_drewN | apply Kd.R_drew)); (first | exact HO195.out | exact Kd.R_mono HO195.out (fun _ _ => trivial) | exact Kd.R_mono HO195.out (fun _ hk => hk.1))) hb); have n4_ := Aside0.mk (below_step (by repeat (first | (with_reducible first | exact HB.out | apply below_alloc | apply pw_below_drewN | apply below_drew1) | exact HB.out)) hb); have n5_ := Aside0.mk (hbox); have n6_ := Aside0.mk ((by rw [hg]; exact (below_size (by repeat (first | (with_reducible first | exact HB.out | apply below_alloc | apply pw_below_drewN | apply below_drew1) | exact HB.out))) : w.heap.size ≤ gb197)); have n7_ := Aside0.mk ((by rw [hg]; exact (below_size (by repeat (first | (with_reducible first | exact HB.out | apply below_alloc | apply pw_below_drewN | apply below_drew1) | exact HB.out))) : w.heap.size ≤ gb197)); clear HO187; clear HO189; clear HO192; clear HO195; clear HB; have HO187 := n0_; have HO189 := n1_; have HO192 := n2_; have HO195 := n3_; have HB := n4_; have BK197 := n5_; have GW197 := n6_; have GE197 := n7_; clear n0_ n1_ n2_ n3_ n4_ n5_ n6_ n7_; clear hb hbox hg; obtain ⟨Ao83, co83, eo83⟩ := Kd.R_slice HO192.out; subst eo83; have hcz84_0 : w82.cell? ⟨gb197, 0, none⟩ = some (.slice none 0 0) := (blk_cell BK197.out 0).trans rfl; have hcz84_1 : w82.cell? ⟨gb197, 1, none⟩ = some (.slice none 0 0) := (blk_cell BK197.out 1).trans rfl; have hcz84_2 : w82.cell? ⟨gb197, 2, none⟩ = some (.int .i64 0) := (blk_cell BK197.out 2).trans rfl; have hfz84_0 := blk_frozen BK197.out 0; have hfz84_1 := blk_frozen BK197.out 1; have hfz84_2 := blk_frozen BK197.out 2; obtain ⟨Ao85, co85, eo85⟩ := Kd.R_slice HO195.out; subst eo85; obtain ⟨Ao86, co86, eo86⟩ := Kd.R_slice HO187.out; subst eo86) | ((with_reducible refine gate_callee (f := 19) rfl ?_); refine goesL_ (some 22) rfl rfl Tryd.func19 (by kernel_rfl) rfl #[.slice Ao86 t183.length co86, .slice Ao83 t190.length co83] rfl (by (try simp only [List.map_toArray, List.map_cons, List.map_nil]); first | done | rfl | (simp only [List.length_drop, List.length_take]; rfl)) ?_; (with_reducible refine (earshotref04_Same.calls k _ _ t183 _ _ t190 true _ ?side1 ?side2 ?side3 ?side4 A4.out).mono ?_); (case side1 => refine (Kd.R_reads' (e := 3) (base := w.heap.size) (ok := fun k_ => ((some k_ ≠ (v188 : Value).ownBlock ∧ some k_ ≠ (.slice Ao83 t190.length co83 : Value).ownBlock) ∧ some k_ ≠ (.slice Ao85 t193.length co85 : Value).ownBlock)) (n := t183.length) (c := co86) ?_).2.2; exact (by (with_reducible repeat (first | apply Kd.R_alloc | apply Kd.R_drewN | apply Kd.R_drew)); exact (Kd.R_mono (Kd.R_far (p := ⟨gb197, 2, none⟩) (Kd.R_far (p := ⟨gb197, 1, none⟩) (Kd.R_far (p := ⟨gb197, 0, none⟩) (Kd.R_types HO187.out BK197.out (by decide)) (fun _ hk => hk.2) (.slice Ao83 t190.length co83)) (fun _ hk => hk.2) (.slice Ao85 t193.length co85)) (fun _ hk => hk.2) (.int .i64 t196)) (fun _ h_ => h_.1)))); (case side2 => exact (Kd.R_reads' HO187.out).2.1); (case side3 => refine (Kd.R_reads' (e := 3) (base := w.heap.size) (ok := fun k_ => ((some k_ ≠ (.slice Ao85 t193.length co85 : Value).ownBlock ∧ some k_ ≠ (.slice Ao86 t183.length co86 : Value).ownBlock) ∧ some k_ ≠ (v188 : Value).ownBlock)) (n := t190.length) (c := co83) ?_).2.2; exact (by (with_reducible repeat (first | apply Kd.R_alloc | apply Kd.R_drewN | apply Kd.R_drew)); exact (Kd.R_mono (Kd.R_far (p := ⟨gb197, 2, none⟩) (Kd.R_far (p := ⟨gb197, 1, none⟩) (Kd.R_far (p := ⟨gb197, 0, none⟩) (Kd.R_types HO192.out BK197.out (by decide)) (fun _ hk => hk.2) (.slice Ao83 t190.length co83)) (fun _ hk => hk.2) (.slice Ao85 t193.length co85)) (fun _ hk => hk.2) (.int .i64 t196)) (fun _ h_ => h_.1)))); (case side4 => exact (Kd.R_reads' HO192.out).2.1); rintro e w' ⟨rfl, ⟨nd, rfl⟩⟩; refine ⟨_, rfl, ?_⟩; obtain ⟨Ao87, co87, eo87⟩ := Kd.R_slice HO189.out; subst eo87) | ((with_reducible refine gate_callee (f := 19) rfl ?_); refine goesL_ (some 26) rfl rfl Tryd.func19 (by kernel_rfl) rfl #[.slice Ao87 t184.length co87, .slice Ao85 t193.length co85] rfl (by (try simp only [List.map_toArray, List.map_cons, List.map_nil]); first | done | rfl | (simp only [List.length_drop, List.length_take]; rfl)) ?_; (with_reducible refine (earshotref04_Same.calls k _ _ t184 _ _ t193 false _ ?side1 ?side2 ?side3 ?side4 A5.out).mono ?_); (case side1 => refine (Kd.R_reads' (e := 3) (base := w.heap.size) (ok := fun k_ => ((some k_ ≠ (.slice Ao86 t183.length co86 : Value).ownBlock ∧ some k_ ≠ (.slice Ao83 t190.length co83 : Value).ownBlock) ∧ some k_ ≠ (.slice Ao85 t193.length co85 : Value).ownBlock)) (n := t184.length) (c := co87) ?_).2.2; exact (by (with_reducible repeat (first | apply Kd.R_alloc | apply Kd.R_drewN | apply Kd.R_drew)); exact (Kd.R_mono (Kd.R_far (p := ⟨gb197, 2, none⟩) (Kd.R_far (p := ⟨gb197, 1, none⟩) (Kd.R_far (p := ⟨gb197, 0, none⟩) (Kd.R_types HO189.out BK197.out (by decide)) (fun _ hk => hk.2) (.slice Ao83 t190.length co83)) (fun _ hk => hk.2) (.slice Ao85 t193.length co85)) (fun _ hk => hk.2) (.int .i64 t196)) (fun _ h_ => h_.1)))); (case side2 => exact (Kd.R_reads' HO189.out).2.1); (case side3 => refine (Kd.R_reads' (e := 3) (base := w.heap.size) (ok := fun k_ => ((some k_ ≠ (.slice Ao83 t190.length co83 : Value).ownBlock ∧ some k_ ≠ (.slice Ao86 t183.length co86 : Value).ownBlock) ∧ some k_ ≠ (.slice Ao87 t184.length co87 : Value).ownBlock)) (n := t193.length) (c := co85) ?_).2.2; exact (by (with_reducible repeat (first | apply Kd.R_alloc | apply Kd.R_drewN | apply Kd.R_drew)); exact (Kd.R_mono (Kd.R_far (p := ⟨gb197, 2, none⟩) (Kd.R_far (p := ⟨gb197, 1, none⟩) (Kd.R_far (p := ⟨gb197, 0, none⟩) (Kd.R_types HO195.out BK197.out (by decide)) (fun _ hk => hk.2) (.slice Ao83 t190.length co83)) (fun _ hk => hk.2) (.slice Ao85 t193.length co85)) (fun _ hk => hk.2) (.int .i64 t196)) (fun _ h_ => h_.1)))); (case side4 => exact (Kd.R_reads' HO195.out).2.1); rintro e w' ⟨rfl, ⟨nd, rfl⟩⟩; refine ⟨_, rfl, ?_⟩))
      have n0_ : Aside0 (Kd.R (Kd.int .i64) 3 (((w82.setCell ⟨gb197, 0, none⟩ (.slice Ao83 t190.length co83)).setCell ⟨gb197, 1, none⟩ (.slice Ao85 t193.length co85)).setCell ⟨gb197, 2, none⟩ (.int .i64 t196)) w.heap.size (fun k_ => some k_ ≠ (.slice Ao87 t184.length co87 : Value).ownBlock ∧ some k_ ≠ (.slice Ao83 t190.length co83 : Value).ownBlock ∧ some k_ ≠ (.slice Ao85 t193.length co85 : Value).ownBlock) (.slice Ao86 t183.length co86) t183) := ⟨by (with_reducible repeat (first | apply Kd.R_alloc | apply Kd.R_drewN | apply Kd.R_drew)); exact Kd.R_mono (Kd.R_far (p := ⟨gb197, 2, none⟩) (Kd.R_far (p := ⟨gb197, 1, none⟩) (Kd.R_far (p := ⟨gb197, 0, none⟩) (Kd.R_types HO187.out BK197.out (by decide)) (fun _ hk => hk.2) (.slice Ao83 t190.length co83)) (fun _ hk => hk.2) (.slice Ao85 t193.length co85)) (fun _ hk => hk.2) (.int .i64 t196)) (fun _ hk => ⟨hk.1.1.1, ⟨hk.1.1.2, hk.1.2⟩⟩)⟩
      have n1_ : Aside0 (Kd.R (Kd.int .i64) 3 (((w82.setCell ⟨gb197, 0, none⟩ (.slice Ao83 t190.length co83)).setCell ⟨gb197, 1, none⟩ (.slice Ao85 t193.length co85)).setCell ⟨gb197, 2, none⟩ (.int .i64 t196)) w.heap.size (fun k_ => some k_ ≠ (.slice Ao86 t183.length co86 : Value).ownBlock ∧ some k_ ≠ (.slice Ao83 t190.length co83 : Value).ownBlock ∧ some k_ ≠ (.slice Ao85 t193.length co85 : Value).ownBlock) (.slice Ao87 t184.length co87) t184) := ⟨by (with_reducible repeat (first | apply Kd.R_alloc | apply Kd.R_drewN | apply Kd.R_drew)); exact Kd.R_mono (Kd.R_far (p := ⟨gb197, 2, none⟩) (Kd.R_far (p := ⟨gb197, 1, none⟩) (Kd.R_far (p := ⟨gb197, 0, none⟩) (Kd.R_types HO189.out BK197.out (by decide)) (fun _ hk => hk.2) (.slice Ao83 t190.length co83)) (fun _ hk => hk.2) (.slice Ao85 t193.length co85)) (fun _ hk => hk.2) (.int .i64 t196)) (fun _ hk => ⟨hk.1.1.1, ⟨hk.1.1.2, hk.1.2⟩⟩)⟩
      have n2_ : Aside0 (Kd.R (Kd.int .i64) 3 (((w82.setCell ⟨gb197, 0, none⟩ (.slice Ao83 t190.length co83)).setCell ⟨gb197, 1, none⟩ (.slice Ao85 t193.length co85)).setCell ⟨gb197, 2, none⟩ (.int .i64 t196)) w.heap.size (fun k_ => some k_ ≠ (.slice Ao86 t183.length co86 : Value).ownBlock ∧ some k_ ≠ (.slice Ao87 t184.length co87 : Value).ownBlock ∧ some k_ ≠ (.slice Ao85 t193.length co85 : Value).ownBlock) (.slice Ao83 t190.length co83) t190) := ⟨by (with_reducible repeat (first | apply Kd.R_alloc | apply Kd.R_drewN | apply Kd.R_drew)); exact Kd.R_mono (Kd.R_far (p := ⟨gb197, 2, none⟩) (Kd.R_far (p := ⟨gb197, 1, none⟩) (Kd.R_far (p := ⟨gb197, 0, none⟩) (Kd.R_types HO192.out BK197.out (by decide)) (fun _ hk => hk.2) (.slice Ao83 t190.length co83)) (fun _ hk => hk.2) (.slice Ao85 t193.length co85)) (fun _ hk => hk.2) (.int .i64 t196)) (fun _ hk => ⟨hk.1.1.2, ⟨hk.1.2, hk.1.1.1⟩⟩)⟩
      have n3_ : Aside0 (Kd.R (Kd.int .i64) 3 (((w82.setCell ⟨gb197, 0, none⟩ (.slice Ao83 t190.length co83)).setCell ⟨gb197, 1, none⟩ (.slice Ao85 t193.length co85)).setCell ⟨gb197, 2, none⟩ (.int .i64 t196)) w.heap.size (fun k_ => some k_ ≠ (.slice Ao86 t183.length co86 : Value).ownBlock ∧ some k_ ≠ (.slice Ao87 t184.length co87 : Value).ownBlock ∧ some k_ ≠ (.slice Ao83 t190.length co83 : Value).ownBlock) (.slice Ao85 t193.length co85) t193) := ⟨by (with_reducible repeat (first | apply Kd.R_alloc | apply Kd.R_drewN | apply Kd.R_drew)); exact Kd.R_mono (Kd.R_far (p := ⟨gb197, 2, none⟩) (Kd.R_far (p := ⟨gb197, 1, none⟩) (Kd.R_far (p := ⟨gb197, 0, none⟩) (Kd.R_types HO195.out BK197.out (by decide)) (fun _ hk => hk.2) (.slice Ao83 t190.length co83)) (fun _ hk => hk.2) (.slice Ao85 t193.length co85)) (fun _ hk => hk.2) (.int .i64 t196)) (fun _ hk => ⟨hk.1.1.2, ⟨hk.1.2, hk.1.1.1⟩⟩)⟩
      have n4_ : Aside0 ((((w82.setCell ⟨gb197, 0, none⟩ (.slice Ao83 t190.length co83)).setCell ⟨gb197, 1, none⟩ (.slice Ao85 t193.length co85)).setCell ⟨gb197, 2, none⟩ (.int .i64 t196)).heap[gb197]? = some (.cells #[.slice Ao83 t190.length co83, .slice Ao85 t193.length co85, .int .i64 t196] 58 (0, 0))) := ⟨by (with_reducible repeat (first | refine blk_drewN ?_ _ | refine blk_drew ?_ | refine blk_alloc ?_ _)); refine blk_put (cs := #[.slice Ao83 t190.length co83, .slice Ao85 t193.length co85, .int .i64 0]) ?_ 2 _ rfl; (with_reducible repeat (first | refine blk_drewN ?_ _ | refine blk_drew ?_ | refine blk_alloc ?_ _)); refine blk_put (cs := #[.slice Ao83 t190.length co83, .slice none 0 0, .int .i64 0]) ?_ 1 _ rfl; (with_reducible repeat (first | refine blk_drewN ?_ _ | refine blk_drew ?_ | refine blk_alloc ?_ _)); refine blk_put (cs := #[.slice none 0 0, .slice none 0 0, .int .i64 0]) ?_ 0 _ rfl; (with_reducible repeat (first | refine blk_drewN ?_ _ | refine blk_drew ?_ | refine blk_alloc ?_ _)); exact BK197.out⟩
      have n5_ : Aside0 (Below w.heap.size w (((w82.setCell ⟨gb197, 0, none⟩ (.slice Ao83 t190.length co83)).setCell ⟨gb197, 1, none⟩ (.slice Ao85 t193.length co85)).setCell ⟨gb197, 2, none⟩ (.int .i64 t196))) := ⟨by repeat (first | (with_reducible first | exact HB.out | apply below_alloc | apply pw_below_drewN | apply below_drew1 | refine below_set ?_ GE197.out) | exact HB.out)⟩
      (try clear HO187)
      (try clear HO189)
      (try clear HO192)
      (try clear HO195)
      (try clear BK197)
      (try clear HB)
      generalize (((w82.setCell ⟨gb197, 0, none⟩ (.slice Ao83 t190.length co83)).setCell ⟨gb197, 1, none⟩ (.slice Ao85 t193.length co85)).setCell ⟨gb197, 2, none⟩ (.int .i64 t196)) = w88 at n0_ n1_ n2_ n3_ n4_ n5_ ⊢
      have HO187 := n0_
      have HO189 := n1_
      have HO192 := n2_
      have HO195 := n3_
      have BK197 := n4_
      have HB := n5_
      clear n0_ n1_ n2_ n3_ n4_ n5_
      (try (rw [drewN_self w88]; generalize hq_ : World.drewN w88 _ = w88; have n0_ : Aside0 (Kd.R (Kd.int .i64) 3 w88 w.heap.size (fun k_ => some k_ ≠ (.slice Ao87 t184.length co87 : Value).ownBlock ∧ some k_ ≠ (.slice Ao83 t190.length co83 : Value).ownBlock ∧ some k_ ≠ (.slice Ao85 t193.length co85 : Value).ownBlock) (.slice Ao86 t183.length co86) t183) := ⟨by rw [← hq_]; exact (by (with_reducible repeat (first | apply Kd.R_alloc | apply Kd.R_drewN | apply Kd.R_drew)); (first | exact HO187.out | exact Kd.R_mono HO187.out (fun _ _ => trivial) | exact Kd.R_mono HO187.out (fun _ hk => hk.1)))⟩; have n1_ : Aside0 (Kd.R (Kd.int .i64) 3 w88 w.heap.size (fun k_ => some k_ ≠ (.slice Ao86 t183.length co86 : Value).ownBlock ∧ some k_ ≠ (.slice Ao83 t190.length co83 : Value).ownBlock ∧ some k_ ≠ (.slice Ao85 t193.length co85 : Value).ownBlock) (.slice Ao87 t184.length co87) t184) := ⟨by rw [← hq_]; exact (by (with_reducible repeat (first | apply Kd.R_alloc | apply Kd.R_drewN | apply Kd.R_drew)); (first | exact HO189.out | exact Kd.R_mono HO189.out (fun _ _ => trivial) | exact Kd.R_mono HO189.out (fun _ hk => hk.1)))⟩; have n2_ : Aside0 (Kd.R (Kd.int .i64) 3 w88 w.heap.size (fun k_ => some k_ ≠ (.slice Ao86 t183.length co86 : Value).ownBlock ∧ some k_ ≠ (.slice Ao87 t184.length co87 : Value).ownBlock ∧ some k_ ≠ (.slice Ao85 t193.length co85 : Value).ownBlock) (.slice Ao83 t190.length co83) t190) := ⟨by rw [← hq_]; exact (by (with_reducible repeat (first | apply Kd.R_alloc | apply Kd.R_drewN | apply Kd.R_drew)); (first | exact HO192.out | exact Kd.R_mono HO192.out (fun _ _ => trivial) | exact Kd.R_mono HO192.out (fun _ hk => hk.1)))⟩; have n3_ : Aside0 (Kd.R (Kd.int .i64) 3 w88 w.heap.size (fun k_ => some k_ ≠ (.slice Ao86 t183.length co86 : Value).ownBlock ∧ some k_ ≠ (.slice Ao87 t184.length co87 : Value).ownBlock ∧ some k_ ≠ (.slice Ao83 t190.length co83 : Value).ownBlock) (.slice Ao85 t193.length co85) t193) := ⟨by rw [← hq_]; exact (by (with_reducible repeat (first | apply Kd.R_alloc | apply Kd.R_drewN | apply Kd.R_drew)); (first | exact HO195.out | exact Kd.R_mono HO195.out (fun _ _ => trivial) | exact Kd.R_mono HO195.out (fun _ hk => hk.1)))⟩; have n4_ : Aside0 (w88.heap[gb197]? = some (.cells #[.slice Ao83 t190.length co83, .slice Ao85 t193.length co85, .int .i64 t196] 58 (0, 0))) := ⟨by rw [← hq_]; exact (by (with_reducible repeat (first | refine blk_drewN ?_ _ | refine blk_drew ?_ | refine blk_alloc ?_ _)); exact BK197.out)⟩; have n5_ : Aside0 (Below w.heap.size w w88) := ⟨by rw [← hq_]; exact (by repeat (first | (with_reducible first | exact HB.out | apply below_alloc | apply pw_below_drewN | apply below_drew1 | refine below_set ?_ GE197.out) | exact HB.out))⟩; clear HO187 HO189 HO192 HO195 BK197 HB hq_; have HO187 := n0_; have HO189 := n1_; have HO192 := n2_; have HO195 := n3_; have BK197 := n4_; have HB := n5_; clear n0_ n1_ n2_ n3_ n4_ n5_))
      have n0_ := Aside0.mk (Kd.R_drew HO187.out)
      have n1_ := Aside0.mk (Kd.R_drew HO189.out)
      have n2_ := Aside0.mk (Kd.R_drew HO192.out)
      have n3_ := Aside0.mk (Kd.R_drew HO195.out)
      have n4_ := Aside0.mk (blk_drew BK197.out)
      have n5_ := Aside0.mk (below_drew1 HB.out)
      clear HO187
      clear HO189
      clear HO192
      clear HO195
      clear BK197
      clear HB
      have HO187 := n0_
      have HO189 := n1_
      have HO192 := n2_
      have HO195 := n3_
      have BK197 := n4_
      have HB := n5_
      clear n0_ n1_ n2_ n3_ n4_ n5_
      refine start_ (n := 10) (S := fun w' => w'.cell? ⟨gb197, 0, none⟩ = some (.slice Ao83 t190.length co83) ∧ w'.cell? ⟨gb197, 1, none⟩ = some (.slice Ao85 t193.length co85) ∧ w'.cell? ⟨gb197, 2, none⟩ = some (.int .i64 t196)) (ds := []) #[false, false, false, false, false, false, false, false, false, false] (by kernel_rfl) rfl rfl ⟨(blk_cell BK197.out 0).trans rfl, (blk_cell BK197.out 1).trans rfl, (blk_cell BK197.out 2).trans rfl⟩ (fun hHeld => ?_); refine with_tabW earshotlaw10_bins.tab5 earshotlaw10_bins.bits5 (fun HT_ HW_ => ?_)
      generalize w88.drew = w89 at HO187 HO189 HO192 HO195 BK197 HB hHeld ⊢
      refine pure_ (i := 0) (N := some 27) (v := ?_) (a' := ?_) #[true, false, false, false, false, false, false, false, false, false] rfl rfl (any_of HT_.out (by kernel_rfl)) (fun _ _ _ h => h) (Or.inl ⟨by rfl, ?_⟩) ?_ ?_
      rotate_left
      · intro w'
        go_simp
        with_reducible rfl
      rotate_left
      · simp only [Act.put, List.setIfInBounds_toArray, List.set_cons_zero, List.set_cons_succ, i64_w, i32_w]
        rfl
      refine pure_ (i := 1) (N := some 28) (v := ?_) (a' := ?_) #[true, true, false, false, false, false, false, false, false, false] rfl rfl (any_of HT_.out (by kernel_rfl)) (fun _ _ _ h => h) (Or.inl ⟨by rfl, ?_⟩) ?_ ?_
      rotate_left
      · intro w'
        go_simp
        with_reducible rfl
      rotate_left
      · simp only [Act.put, List.setIfInBounds_toArray, List.set_cons_zero, List.set_cons_succ, i64_w, i32_w]
        rfl
      refine pure_ (i := 3) (N := some 30) (v := ?_) (a' := ?_) #[true, true, false, true, false, false, false, false, false, false] rfl rfl (any_of HT_.out (by kernel_rfl)) (fun _ _ _ h => h) (Or.inl ⟨by rfl, ?_⟩) ?_ ?_
      rotate_left
      · intro w'
        go_simp
        with_reducible rfl
      rotate_left
      · simp only [Act.put, List.setIfInBounds_toArray, List.set_cons_zero, List.set_cons_succ, i64_w, i32_w]
        rfl
      refine pure_ (i := 5) (N := some 32) (v := ?_) (a' := ?_) #[true, true, false, true, false, true, false, false, false, false] rfl rfl (any_of HT_.out (by kernel_rfl)) (fun _ _ _ h => h) (Or.inl ⟨by rfl, ?_⟩) ?_ ?_
      rotate_left
      · intro w'
        go_simp
        with_reducible rfl
      rotate_left
      · simp only [Act.put, List.setIfInBounds_toArray, List.set_cons_zero, List.set_cons_succ, i64_w, i32_w]
        rfl
      refine take_ (i := 4) (N := some 31) (v := ?_) (a' := ?_) #[true, true, false, true, true, true, false, false, false, false] rfl rfl (take_ofW HT_.out HW_.out (by kernel_rfl)) (fun _ _ _ h => h) (Or.inl ⟨by rfl, ?_⟩) hHeld ?_ ?_
      rotate_left
      · rintro w' ⟨s0, s1, s2⟩
        go_simp
        with_reducible rfl
      rotate_left
      · simp only [Act.put, List.setIfInBounds_toArray, List.set_cons_zero, List.set_cons_succ, i64_w, i32_w]
        rfl
      refine take_ (i := 6) (N := some 33) (v := ?_) (a' := ?_) #[true, true, false, true, true, true, true, false, false, false] rfl rfl (take_ofW HT_.out HW_.out (by kernel_rfl)) (fun _ _ _ h => h) (Or.inl ⟨by rfl, ?_⟩) hHeld ?_ ?_
      rotate_left
      · rintro w' ⟨s0, s1, s2⟩
        go_simp
        with_reducible rfl
      rotate_left
      · simp only [Act.put, List.setIfInBounds_toArray, List.set_cons_zero, List.set_cons_succ, i64_w, i32_w]
        rfl
      refine one_ (i := 2) (N := some 29) #[true, true, true, true, true, true, true, false, false, false] rfl rfl (one_of HT_.out (by kernel_rfl)) (by decide) (fun K hK => ?_)
      refine goes_ Tryd.func52 (by kernel_rfl) rfl #[.slice Ao86 t183.length co86, .slice Ao87 t184.length co87] (by first | rfl | exact wanted_on rfl rfl rfl (by first | assumption | rfl | (simp [*]; done))) rfl rfl (by (try simp only [List.map_toArray, List.map_cons, List.map_nil]); first | done | rfl | (simp only [List.length_drop, List.length_take]; rfl)) ?_
      with_reducible refine (fft_Power.calls _ _ t183 _ _ t184 t200 _ ?side1 ?side2 ?side3 ?side4 A6.out).mono ?_
      (case side1 => repeat (first | exact (Kd.R_reads' HO187.out).2.2 | (with_reducible refine Kd.C_alloc ?_ _) | (with_reducible refine Kd.C_drewN ?_ _) | (with_reducible refine Kd.C_drew ?_)))
      (case side2 => exact (Kd.R_reads' HO187.out).2.1)
      (case side3 => repeat (first | exact (Kd.R_reads' HO189.out).2.2 | (with_reducible refine Kd.C_alloc ?_ _) | (with_reducible refine Kd.C_drewN ?_ _) | (with_reducible refine Kd.C_drew ?_)))
      (case side4 => exact (Kd.R_reads' HO189.out).2.1)
      rintro e w90 ⟨v201, rfl, ho0, hb⟩
      refine ⟨_, rfl, ?_⟩
      have n0_ := Aside0.mk (Kd.R_elder' (by (with_reducible repeat (first | apply Kd.R_alloc | apply Kd.R_drewN | apply Kd.R_drew)); (first | exact HO187.out | exact Kd.R_mono HO187.out (fun _ _ => trivial) | exact Kd.R_mono HO187.out (fun _ hk => hk.1))) (Kd.R_base ho0) hb)
      have n1_ := Aside0.mk (Kd.R_elder' (by (with_reducible repeat (first | apply Kd.R_alloc | apply Kd.R_drewN | apply Kd.R_drew)); (first | exact HO189.out | exact Kd.R_mono HO189.out (fun _ _ => trivial) | exact Kd.R_mono HO189.out (fun _ hk => hk.1))) (Kd.R_base ho0) hb)
      have n2_ := Aside0.mk (Kd.R_elder' (by (with_reducible repeat (first | apply Kd.R_alloc | apply Kd.R_drewN | apply Kd.R_drew)); (first | exact HO192.out | exact Kd.R_mono HO192.out (fun _ _ => trivial) | exact Kd.R_mono HO192.out (fun _ hk => hk.1))) (Kd.R_base ho0) hb)
      have n3_ := Aside0.mk (Kd.R_elder' (by (with_reducible repeat (first | apply Kd.R_alloc | apply Kd.R_drewN | apply Kd.R_drew)); (first | exact HO195.out | exact Kd.R_mono HO195.out (fun _ _ => trivial) | exact Kd.R_mono HO195.out (fun _ hk => hk.1))) (Kd.R_base ho0) hb)
      have n4_ := Aside0.mk (Kd.R_lower (Kd.R_new' (Kd.R_new' (Kd.R_new' (Kd.R_new' ho0 (Kd.R_lt (by (with_reducible repeat (first | apply Kd.R_alloc | apply Kd.R_drewN | apply Kd.R_drew)); (first | exact HO187.out | exact Kd.R_mono HO187.out (fun _ _ => trivial) | exact Kd.R_mono HO187.out (fun _ hk => hk.1))))) (Kd.R_lt (by (with_reducible repeat (first | apply Kd.R_alloc | apply Kd.R_drewN | apply Kd.R_drew)); (first | exact HO189.out | exact Kd.R_mono HO189.out (fun _ _ => trivial) | exact Kd.R_mono HO189.out (fun _ hk => hk.1))))) (Kd.R_lt (by (with_reducible repeat (first | apply Kd.R_alloc | apply Kd.R_drewN | apply Kd.R_drew)); (first | exact HO192.out | exact Kd.R_mono HO192.out (fun _ _ => trivial) | exact Kd.R_mono HO192.out (fun _ hk => hk.1))))) (Kd.R_lt (by (with_reducible repeat (first | apply Kd.R_alloc | apply Kd.R_drewN | apply Kd.R_drew)); (first | exact HO195.out | exact Kd.R_mono HO195.out (fun _ _ => trivial) | exact Kd.R_mono HO195.out (fun _ hk => hk.1))))) (below_size (by repeat (first | (with_reducible first | exact HB.out | apply below_alloc | apply pw_below_drewN | apply below_drew1 | refine below_set ?_ GE197.out) | exact HB.out))))
      have n5_ := Aside0.mk (blk_below (g := gb197) (o := .cells #[.slice Ao83 t190.length co83, .slice Ao85 t193.length co85, .int .i64 t196] 58 (0, 0)) (by (with_reducible repeat (first | refine blk_drewN ?_ _ | refine blk_drew ?_ | refine blk_alloc ?_ _)); exact BK197.out) hb)
      have n6_ := Aside0.mk (below_step (by repeat (first | (with_reducible first | exact HB.out | apply below_alloc | apply pw_below_drewN | apply below_drew1 | refine below_set ?_ GE197.out) | exact HB.out)) hb)
      clear HO187
      clear HO189
      clear HO192
      clear HO195
      clear BK197
      clear HB
      have HO187 := n0_
      have HO189 := n1_
      have HO192 := n2_
      have HO195 := n3_
      have HO202 := n4_
      have BK197 := n5_
      have HB := n6_
      clear n0_ n1_ n2_ n3_ n4_ n5_ n6_
      (try clear hb)
      (try clear hb2)
      (try clear hk)
      (try clear hi)
      (try clear ho0)
      refine hK.out _ _ ⟨(blk_cell BK197.out 0).trans rfl, (blk_cell BK197.out 1).trans rfl, (blk_cell BK197.out 2).trans rfl⟩ (fun hHeld => ?_)
      clear hK K
      refine norm_ (a' := ?_) ?_ ?_
      rotate_left
      · show Act.put _ (some 29) _ = _
        simp only [Act.put, List.setIfInBounds_toArray, List.set_cons_zero, List.set_cons_succ, i64_w, i32_w]
        rfl
      refine one_ (i := 7) (N := some 34) #[true, true, true, true, true, true, true, true, false, false] rfl rfl (one_of HT_.out (by kernel_rfl)) (by decide) (fun K hK => ?_)
      refine goes_ Tryd.func53 (by kernel_rfl) rfl #[.slice Ao83 t190.length co83, .slice Ao85 t193.length co85] (by first | rfl | exact wanted_on rfl rfl rfl (by first | assumption | rfl | (simp [*]; done))) rfl rfl (by (try simp only [List.map_toArray, List.map_cons, List.map_nil]); first | done | rfl | (simp only [List.length_drop, List.length_take]; rfl)) ?_
      with_reducible refine (earshotref10_Power.calls k _ _ t190 _ _ t193 t203 _ ?side1 ?side2 ?side3 ?side4 A7.out).mono ?_
      (case side1 => repeat (first | exact (Kd.R_reads' HO192.out).2.2 | (with_reducible refine Kd.C_alloc ?_ _) | (with_reducible refine Kd.C_drewN ?_ _) | (with_reducible refine Kd.C_drew ?_)))
      (case side2 => exact (Kd.R_reads' HO192.out).2.1)
      (case side3 => repeat (first | exact (Kd.R_reads' HO195.out).2.2 | (with_reducible refine Kd.C_alloc ?_ _) | (with_reducible refine Kd.C_drewN ?_ _) | (with_reducible refine Kd.C_drew ?_)))
      (case side4 => exact (Kd.R_reads' HO195.out).2.1)
      rintro e w91 ⟨v204, rfl, ho0, hb⟩
      refine ⟨_, rfl, ?_⟩
      have n0_ := Aside0.mk (Kd.R_elder' (by (with_reducible repeat (first | apply Kd.R_alloc | apply Kd.R_drewN | apply Kd.R_drew)); (first | exact HO187.out | exact Kd.R_mono HO187.out (fun _ _ => trivial) | exact Kd.R_mono HO187.out (fun _ hk => hk.1))) (Kd.R_base ho0) hb)
      have n1_ := Aside0.mk (Kd.R_elder' (by (with_reducible repeat (first | apply Kd.R_alloc | apply Kd.R_drewN | apply Kd.R_drew)); (first | exact HO189.out | exact Kd.R_mono HO189.out (fun _ _ => trivial) | exact Kd.R_mono HO189.out (fun _ hk => hk.1))) (Kd.R_base ho0) hb)
      have n2_ := Aside0.mk (Kd.R_elder' (by (with_reducible repeat (first | apply Kd.R_alloc | apply Kd.R_drewN | apply Kd.R_drew)); (first | exact HO192.out | exact Kd.R_mono HO192.out (fun _ _ => trivial) | exact Kd.R_mono HO192.out (fun _ hk => hk.1))) (Kd.R_base ho0) hb)
      have n3_ := Aside0.mk (Kd.R_elder' (by (with_reducible repeat (first | apply Kd.R_alloc | apply Kd.R_drewN | apply Kd.R_drew)); (first | exact HO195.out | exact Kd.R_mono HO195.out (fun _ _ => trivial) | exact Kd.R_mono HO195.out (fun _ hk => hk.1))) (Kd.R_base ho0) hb)
      have n4_ := Aside0.mk (Kd.R_elder' (by (with_reducible repeat (first | apply Kd.R_alloc | apply Kd.R_drewN | apply Kd.R_drew)); (first | exact HO202.out | exact Kd.R_mono HO202.out (fun _ _ => trivial) | exact Kd.R_mono HO202.out (fun _ hk => hk.1))) (Kd.R_base ho0) hb)
      have n5_ := Aside0.mk (Kd.R_lower (Kd.R_new' (Kd.R_new' (Kd.R_new' (Kd.R_new' (Kd.R_new' ho0 (Kd.R_lt (by (with_reducible repeat (first | apply Kd.R_alloc | apply Kd.R_drewN | apply Kd.R_drew)); (first | exact HO187.out | exact Kd.R_mono HO187.out (fun _ _ => trivial) | exact Kd.R_mono HO187.out (fun _ hk => hk.1))))) (Kd.R_lt (by (with_reducible repeat (first | apply Kd.R_alloc | apply Kd.R_drewN | apply Kd.R_drew)); (first | exact HO189.out | exact Kd.R_mono HO189.out (fun _ _ => trivial) | exact Kd.R_mono HO189.out (fun _ hk => hk.1))))) (Kd.R_lt (by (with_reducible repeat (first | apply Kd.R_alloc | apply Kd.R_drewN | apply Kd.R_drew)); (first | exact HO192.out | exact Kd.R_mono HO192.out (fun _ _ => trivial) | exact Kd.R_mono HO192.out (fun _ hk => hk.1))))) (Kd.R_lt (by (with_reducible repeat (first | apply Kd.R_alloc | apply Kd.R_drewN | apply Kd.R_drew)); (first | exact HO195.out | exact Kd.R_mono HO195.out (fun _ _ => trivial) | exact Kd.R_mono HO195.out (fun _ hk => hk.1))))) (Kd.R_lt (by (with_reducible repeat (first | apply Kd.R_alloc | apply Kd.R_drewN | apply Kd.R_drew)); (first | exact HO202.out | exact Kd.R_mono HO202.out (fun _ _ => trivial) | exact Kd.R_mono HO202.out (fun _ hk => hk.1))))) (below_size (by repeat (first | (with_reducible first | exact HB.out | apply below_alloc | apply pw_below_drewN | apply below_drew1 | refine below_set ?_ GE197.out) | exact HB.out))))
      have n6_ := Aside0.mk (blk_below (g := gb197) (o := .cells #[.slice Ao83 t190.length co83, .slice Ao85 t193.length co85, .int .i64 t196] 58 (0, 0)) (by (with_reducible repeat (first | refine blk_drewN ?_ _ | refine blk_drew ?_ | refine blk_alloc ?_ _)); exact BK197.out) hb)
      have n7_ := Aside0.mk (below_step (by repeat (first | (with_reducible first | exact HB.out | apply below_alloc | apply pw_below_drewN | apply below_drew1 | refine below_set ?_ GE197.out) | exact HB.out)) hb)
      clear HO187
      clear HO189
      clear HO192
      clear HO195
      clear HO202
      clear BK197
      clear HB
      have HO187 := n0_
      have HO189 := n1_
      have HO192 := n2_
      have HO195 := n3_
      have HO202 := n4_
      have HO205 := n5_
      have BK197 := n6_
      have HB := n7_
      clear n0_ n1_ n2_ n3_ n4_ n5_ n6_ n7_
      (try clear hb)
      (try clear hb2)
      (try clear hk)
      (try clear hi)
      (try clear ho0)
      obtain ⟨Ao92, co92, eo92⟩ := Kd.R_slice HO202.out
      (first | subst eo92 | (injection eo92 with f1_ f2_ f3_; have f4_ := f1_.symm; have f5_ := f3_.symm; clear f1_ f2_ f3_; subst f4_; subst f5_))
      obtain ⟨Ao93, co93, eo93⟩ := Kd.R_slice HO205.out
      (first | subst eo93 | (injection eo93 with f1_ f2_ f3_; have f4_ := f1_.symm; have f5_ := f3_.symm; clear f1_ f2_ f3_; subst f4_; subst f5_))
      refine hK.out _ _ ⟨(blk_cell BK197.out 0).trans rfl, (blk_cell BK197.out 1).trans rfl, (blk_cell BK197.out 2).trans rfl⟩ (fun hHeld => ?_)
      clear hK K
      refine norm_ (a' := ?_) ?_ ?_
      rotate_left
      · show Act.put _ (some 34) _ = _
        simp only [Act.put, List.setIfInBounds_toArray, List.set_cons_zero, List.set_cons_succ, i64_w, i32_w]
        rfl
      refine one_ (i := 8) (N := some 35) #[true, true, true, true, true, true, true, true, true, false] rfl rfl (one_of HT_.out (by kernel_rfl)) (by decide) (fun K hK => ?_)
      refine goes_ Tryd.func19 (by kernel_rfl) rfl #[.slice Ao92 t200.length co92, .slice Ao93 t203.length co93] (by first | rfl | exact wanted_on rfl rfl rfl (by first | assumption | rfl | (simp [*]; done))) rfl rfl (by (try simp only [List.map_toArray, List.map_cons, List.map_nil]); first | done | rfl | (simp only [List.length_drop, List.length_take]; rfl)) ?_
      with_reducible refine (earshotref04_Same.calls k _ _ t200 _ _ t203 t206 _ ?side1 ?side2 ?side3 ?side4 A8.out).mono ?_
      (case side1 => repeat (first | exact (Kd.R_reads' HO202.out).2.2 | (with_reducible refine Kd.C_alloc ?_ _) | (with_reducible refine Kd.C_drewN ?_ _) | (with_reducible refine Kd.C_drew ?_)))
      (case side2 => exact (Kd.R_reads' HO202.out).2.1)
      (case side3 => repeat (first | exact (Kd.R_reads' HO205.out).2.2 | (with_reducible refine Kd.C_alloc ?_ _) | (with_reducible refine Kd.C_drewN ?_ _) | (with_reducible refine Kd.C_drew ?_)))
      (case side4 => exact (Kd.R_reads' HO205.out).2.1)
      rintro e w' ⟨rfl, ⟨nd, rfl⟩⟩
      refine ⟨_, rfl, ?_⟩
      refine hK.out _ _ ⟨(blk_cell BK197.out 0).trans rfl, (blk_cell BK197.out 1).trans rfl, (blk_cell BK197.out 2).trans rfl⟩ (fun hHeld => ?_)
      clear hK K
      refine norm_ (a' := ?_) ?_ ?_
      rotate_left
      · show Act.put _ (some 35) _ = _
        simp only [Act.put, List.setIfInBounds_toArray, List.set_cons_zero, List.set_cons_succ, i64_w, i32_w]
        rfl
      refine pure_ (i := 9) (N := some 9) (v := ?_) (a' := ?_) #[true, true, true, true, true, true, true, true, true, true] rfl rfl (any_of HT_.out (by kernel_rfl)) (fun _ _ _ h => h) (Or.inl ⟨by rfl, ?_⟩) ?_ ?_
      rotate_left
      · intro w'
        go_simp
        with_reducible rfl
      rotate_left
      · simp only [Act.put, List.setIfInBounds_toArray, List.set_cons_zero, List.set_cons_succ, i64_w, i32_w]
        rfl
      refine done_ (done_of HT_.out (by kernel_rfl)) ?_
      try go_wp2_with (first | ((with_reducible refine gate_callee (f := 47) rfl ?_); refine goesL_ (some 38) rfl rfl Tryd.func47 (by kernel_rfl) rfl #[.int .i64 (l0.length : Int)] rfl (by (try simp only [List.map_toArray, List.map_cons, List.map_nil]); first | done | rfl | (simp only [List.length_drop, List.length_take]; rfl)) ?_; (with_reducible refine (earshotref10_May.calls (l0.length : Int) t207 _ A9.out).mono ?_); rintro e w' ⟨rfl, ⟨nd, rfl⟩⟩; refine ⟨_, rfl, ?_⟩))
      go_ret
      exact ⟨by first | rfl | (simp [errW_none, errW_some] <;> rfl) | (simp [*, errW_none, errW_some] <;> rfl), by repeat (first | (with_reducible first | exact HB.out | apply below_alloc | apply pw_below_drewN | apply below_drew1 | refine below_set ?_ GE197.out) | exact HB.out)⟩
  · replace c10 := Bool.eq_false_iff.mpr c10
    subst c10
    have H1 : (some false) = some r := by rw [if_neg (show ¬ (false = true) by decide)] at H; exact H
    clear H
    have H := H1
    clear H1
    obtain rfl := Option.some.inj H
    go_enter Tryd.func31, Tryd.ntmps31
    try go_wp2_with (first | ((with_reducible refine gate_callee (f := 29) rfl ?_); refine goesL_ (some 13) rfl rfl Tryd.func29 (by kernel_rfl) rfl #[.slice A0 l0.length c0] rfl (by (try simp only [List.map_toArray, List.map_cons, List.map_nil]); first | done | rfl | (simp only [List.length_drop, List.length_take]; rfl)) ?_; (with_reducible refine (fft_Bins.calls _ _ l0 t183 t184 t185 _ ?side1 ?side2 ?side3 A2.out).mono ?_); (case side1 => exact GlobA.below HG.out (by repeat (first | (with_reducible first | exact HB.out | apply below_alloc | apply pw_below_drewN | apply below_drew1) | exact HB.out))); (case side2 => repeat (first | exact HR0.out | (with_reducible refine Kd.C_alloc ?_ _) | (with_reducible refine Kd.C_drewN ?_ _) | (with_reducible refine Kd.C_drew ?_))); (case side3 => exact HC0.out); rintro e w94 ⟨v186, v188, rfl, ho0, ho1, hb⟩; refine ⟨_, rfl, ?_⟩; have n0_ := Aside0.mk (Kd.R_lower ho0 (below_size (by repeat (first | (with_reducible first | exact HB.out | apply below_alloc | apply pw_below_drewN | apply below_drew1) | exact HB.out)))); have n1_ := Aside0.mk (Kd.R_lower ho1 (below_size (by repeat (first | (with_reducible first | exact HB.out | apply below_alloc | apply pw_below_drewN | apply below_drew1) | exact HB.out)))); have n2_ := Aside0.mk (below_step (by repeat (first | (with_reducible first | exact HB.out | apply below_alloc | apply pw_below_drewN | apply below_drew1) | exact HB.out)) hb); clear HB; have HO187 := n0_; have HO189 := n1_; have HB := n2_; clear n0_ n1_ n2_; (try clear hb); (try clear hb2); (try clear hk); (try clear hi); (try clear ho0); (try clear ho1)) | ((with_reducible refine gate_callee (f := 51) rfl ?_); refine goesL_ (some 18) rfl rfl Tryd.func51 (by kernel_rfl) rfl #[.slice A0 l0.length c0] rfl (by (try simp only [List.map_toArray, List.map_cons, List.map_nil]); first | done | rfl | (simp only [List.length_drop, List.length_take]; rfl)) ?_; (with_reducible refine (earshotref10_Bins.calls k _ _ l0 t190 t193 t196 _ ?side1 ?side2 A3.out).mono ?_); (case side1 => repeat (first | exact (Kd.C_below HR0.out HB.out) | (with_reducible refine Kd.C_alloc ?_ _) | (with_reducible refine Kd.C_drewN ?_ _) | (with_reducible refine Kd.C_drew ?_))); (case side2 => exact HC0.out); rintro e w95 ⟨v191, v194, rfl, ho0, ho1, hb⟩; refine ⟨_, rfl, ?_⟩; have n0_ := Aside0.mk (Kd.R_mono (Kd.R_told (Kd.R_told (Kd.R_old (by (with_reducible repeat (first | apply Kd.R_alloc | apply Kd.R_drewN | apply Kd.R_drew)); (first | exact HO187.out | exact Kd.R_mono HO187.out (fun _ _ => trivial) | exact Kd.R_mono HO187.out (fun _ hk => hk.1))) hb) (Kd.R_base ho0)) (Kd.R_base ho1)) (fun _ h_ => h_.1)); have n1_ := Aside0.mk (Kd.R_mono (Kd.R_told (Kd.R_told (Kd.R_old (by (with_reducible repeat (first | apply Kd.R_alloc | apply Kd.R_drewN | apply Kd.R_drew)); (first | exact HO189.out | exact Kd.R_mono HO189.out (fun _ _ => trivial) | exact Kd.R_mono HO189.out (fun _ hk => hk.1))) hb) (Kd.R_base ho0)) (Kd.R_base ho1)) (fun _ h_ => h_.1)); have n2_ := Aside0.mk (Kd.R_lower (Kd.R_new' (Kd.R_new' ho0 (Kd.R_lt (by (with_reducible repeat (first | apply Kd.R_alloc | apply Kd.R_drewN | apply Kd.R_drew)); (first | exact HO187.out | exact Kd.R_mono HO187.out (fun _ _ => trivial) | exact Kd.R_mono HO187.out (fun _ hk => hk.1))))) (Kd.R_lt (by (with_reducible repeat (first | apply Kd.R_alloc | apply Kd.R_drewN | apply Kd.R_drew)); (first | exact HO189.out | exact Kd.R_mono HO189.out (fun _ _ => trivial) | exact Kd.R_mono HO189.out (fun _ hk => hk.1))))) (below_size (by repeat (first | (with_reducible first | exact HB.out | apply below_alloc | apply pw_below_drewN | apply below_drew1) | exact HB.out)))); have n3_ := Aside0.mk (Kd.R_lower (Kd.R_new' (Kd.R_new' ho1 (Kd.R_lt (by (with_reducible repeat (first | apply Kd.R_alloc | apply Kd.R_drewN | apply Kd.R_drew)); (first | exact HO187.out | exact Kd.R_mono HO187.out (fun _ _ => trivial) | exact Kd.R_mono HO187.out (fun _ hk => hk.1))))) (Kd.R_lt (by (with_reducible repeat (first | apply Kd.R_alloc | apply Kd.R_drewN | apply Kd.R_drew)); (first | exact HO189.out | exact Kd.R_mono HO189.out (fun _ _ => trivial) | exact Kd.R_mono HO189.out (fun _ hk => hk.1))))) (below_size (by repeat (first | (with_reducible first | exact HB.out | apply below_alloc | apply pw_below_drewN | apply below_drew1) | exact HB.out)))); have n4_ := Aside0.mk (below_step (by repeat (first | (with_reducible first | exact HB.out | apply below_alloc | apply pw_below_drewN | apply below_drew1) | exact HB.out)) hb); clear HO187; clear HO189; clear HB; have HO187 := n0_; have HO189 := n1_; have HO192 := n2_; have HO195 := n3_; have HB := n4_; clear n0_ n1_ n2_ n3_ n4_; (try clear hb); (try clear hb2); (try clear hk); (try clear hi); (try clear ho0); (try clear ho1)) | ((with_reducible refine gate_dst (N := 6) rfl ?_); (try (refine gate_guard (by rfl) ?_; dsimp only)); refine box_event ?hg (N := 6) ?hd (cs := #[.slice none 0 0, .slice none 0 0, .int .i64 0]) (t := 58) ?hr ?_; (case hd => rfl); (case hg => first | rfl | exact wanted_on rfl rfl rfl (by first | assumption | rfl | (simp [*]; done))); (case hr => first | (go_simp; done) | (go_simp; rfl)); intro gb197 hg w96 hbox hb; have n0_ := Aside0.mk (Kd.R_below (by (with_reducible repeat (first | apply Kd.R_alloc | apply Kd.R_drewN | apply Kd.R_drew)); (first | exact HO187.out | exact Kd.R_mono HO187.out (fun _ _ => trivial) | exact Kd.R_mono HO187.out (fun _ hk => hk.1))) hb); have n1_ := Aside0.mk (Kd.R_below (by (with_reducible repeat (first | apply Kd.R_alloc | apply Kd.R_drewN | apply Kd.R_drew)); (first | exact HO189.out | exact Kd.R_mono HO189.out (fun _ _ => trivial) | exact Kd.R_mono HO189.out (fun _ hk => hk.1))) hb); have n2_ := Aside0.mk (Kd.R_below (by (with_reducible repeat (first | apply Kd.R_alloc | apply Kd.R_drewN | apply Kd.R_drew)); (first | exact HO192.out | exact Kd.R_mono HO192.out (fun _ _ => trivial) | exact Kd.R_mono HO192.out (fun _ hk => hk.1))) hb); have n3_ := Aside0.mk (Kd.R_below (by (with_reducible repeat (first | apply Kd.R_alloc | apply Kd.R_drewN | apply Kd.R_drew)); (first | exact HO195.out | exact Kd.R_mono HO195.out (fun _ _ => trivial) | exact Kd.R_mono HO195.out (fun _ hk => hk.1))) hb); have n4_ := Aside0.mk (below_step (by repeat (first | (with_reducible first | exact HB.out | apply below_alloc | apply pw_below_drewN | apply below_drew1) | exact HB.out)) hb); have n5_ := Aside0.mk (hbox); have n6_ := Aside0.mk ((by rw [hg]; exact (below_size (by repeat (first | (with_reducible first | exact HB.out | apply below_alloc | apply pw_below_drewN | apply below_drew1) | exact HB.out))) : w.heap.size ≤ gb197)); have n7_ := Aside0.mk ((by rw [hg]; exact (below_size (by repeat (first | (with_reducible first | exact HB.out | apply below_alloc | apply pw_below_drewN | apply below_drew1) | exact HB.out))) : w.heap.size ≤ gb197)); clear HO187; clear HO189; clear HO192; clear HO195; clear HB; have HO187 := n0_; have HO189 := n1_; have HO192 := n2_; have HO195 := n3_; have HB := n4_; have BK197 := n5_; have GW197 := n6_; have GE197 := n7_; clear n0_ n1_ n2_ n3_ n4_ n5_ n6_ n7_; clear hb hbox hg; obtain ⟨Ao97, co97, eo97⟩ := Kd.R_slice HO192.out; subst eo97; have hcz98_0 : w96.cell? ⟨gb197, 0, none⟩ = some (.slice none 0 0) := (blk_cell BK197.out 0).trans rfl; have hcz98_1 : w96.cell? ⟨gb197, 1, none⟩ = some (.slice none 0 0) := (blk_cell BK197.out 1).trans rfl; have hcz98_2 : w96.cell? ⟨gb197, 2, none⟩ = some (.int .i64 0) := (blk_cell BK197.out 2).trans rfl; have hfz98_0 := blk_frozen BK197.out 0; have hfz98_1 := blk_frozen BK197.out 1; have hfz98_2 := blk_frozen BK197.out 2; obtain ⟨Ao99, co99, eo99⟩ := Kd.R_slice HO195.out; subst eo99; obtain ⟨Ao100, co100, eo100⟩ := Kd.R_slice HO187.out; subst eo100) | ((with_reducible refine gate_callee (f := 19) rfl ?_); refine goesL_ (some 22) rfl rfl Tryd.func19 (by kernel_rfl) rfl #[.slice Ao100 t183.length co100, .slice Ao97 t190.length co97] rfl (by (try simp only [List.map_toArray, List.map_cons, List.map_nil]); first | done | rfl | (simp only [List.length_drop, List.length_take]; rfl)) ?_; (with_reducible refine (earshotref04_Same.calls k _ _ t183 _ _ t190 false _ ?side1 ?side2 ?side3 ?side4 A4.out).mono ?_); (case side1 => refine (Kd.R_reads' (e := 3) (base := w.heap.size) (ok := fun k_ => ((some k_ ≠ (v188 : Value).ownBlock ∧ some k_ ≠ (.slice Ao97 t190.length co97 : Value).ownBlock) ∧ some k_ ≠ (.slice Ao99 t193.length co99 : Value).ownBlock)) (n := t183.length) (c := co100) ?_).2.2; exact (by (with_reducible repeat (first | apply Kd.R_alloc | apply Kd.R_drewN | apply Kd.R_drew)); exact (Kd.R_mono (Kd.R_far (p := ⟨gb197, 2, none⟩) (Kd.R_far (p := ⟨gb197, 1, none⟩) (Kd.R_far (p := ⟨gb197, 0, none⟩) (Kd.R_types HO187.out BK197.out (by decide)) (fun _ hk => hk.2) (.slice Ao97 t190.length co97)) (fun _ hk => hk.2) (.slice Ao99 t193.length co99)) (fun _ hk => hk.2) (.int .i64 t196)) (fun _ h_ => h_.1)))); (case side2 => exact (Kd.R_reads' HO187.out).2.1); (case side3 => refine (Kd.R_reads' (e := 3) (base := w.heap.size) (ok := fun k_ => ((some k_ ≠ (.slice Ao99 t193.length co99 : Value).ownBlock ∧ some k_ ≠ (.slice Ao100 t183.length co100 : Value).ownBlock) ∧ some k_ ≠ (v188 : Value).ownBlock)) (n := t190.length) (c := co97) ?_).2.2; exact (by (with_reducible repeat (first | apply Kd.R_alloc | apply Kd.R_drewN | apply Kd.R_drew)); exact (Kd.R_mono (Kd.R_far (p := ⟨gb197, 2, none⟩) (Kd.R_far (p := ⟨gb197, 1, none⟩) (Kd.R_far (p := ⟨gb197, 0, none⟩) (Kd.R_types HO192.out BK197.out (by decide)) (fun _ hk => hk.2) (.slice Ao97 t190.length co97)) (fun _ hk => hk.2) (.slice Ao99 t193.length co99)) (fun _ hk => hk.2) (.int .i64 t196)) (fun _ h_ => h_.1)))); (case side4 => exact (Kd.R_reads' HO192.out).2.1); rintro e w' ⟨rfl, ⟨nd, rfl⟩⟩; refine ⟨_, rfl, ?_⟩; obtain ⟨Ao101, co101, eo101⟩ := Kd.R_slice HO189.out; subst eo101) | ((with_reducible refine gate_callee (f := 19) rfl ?_); refine goesL_ (some 26) rfl rfl Tryd.func19 (by kernel_rfl) rfl #[.slice Ao101 t184.length co101, .slice Ao99 t193.length co99] rfl (by (try simp only [List.map_toArray, List.map_cons, List.map_nil]); first | done | rfl | (simp only [List.length_drop, List.length_take]; rfl)) ?_; (with_reducible refine (earshotref04_Same.calls k _ _ t184 _ _ t193 t199 _ ?side1 ?side2 ?side3 ?side4 A5.out).mono ?_); (case side1 => refine (Kd.R_reads' (e := 3) (base := w.heap.size) (ok := fun k_ => ((some k_ ≠ (.slice Ao100 t183.length co100 : Value).ownBlock ∧ some k_ ≠ (.slice Ao97 t190.length co97 : Value).ownBlock) ∧ some k_ ≠ (.slice Ao99 t193.length co99 : Value).ownBlock)) (n := t184.length) (c := co101) ?_).2.2; exact (by (with_reducible repeat (first | apply Kd.R_alloc | apply Kd.R_drewN | apply Kd.R_drew)); exact (Kd.R_mono (Kd.R_far (p := ⟨gb197, 2, none⟩) (Kd.R_far (p := ⟨gb197, 1, none⟩) (Kd.R_far (p := ⟨gb197, 0, none⟩) (Kd.R_types HO189.out BK197.out (by decide)) (fun _ hk => hk.2) (.slice Ao97 t190.length co97)) (fun _ hk => hk.2) (.slice Ao99 t193.length co99)) (fun _ hk => hk.2) (.int .i64 t196)) (fun _ h_ => h_.1)))); (case side2 => exact (Kd.R_reads' HO189.out).2.1); (case side3 => refine (Kd.R_reads' (e := 3) (base := w.heap.size) (ok := fun k_ => ((some k_ ≠ (.slice Ao97 t190.length co97 : Value).ownBlock ∧ some k_ ≠ (.slice Ao100 t183.length co100 : Value).ownBlock) ∧ some k_ ≠ (.slice Ao101 t184.length co101 : Value).ownBlock)) (n := t193.length) (c := co99) ?_).2.2; exact (by (with_reducible repeat (first | apply Kd.R_alloc | apply Kd.R_drewN | apply Kd.R_drew)); exact (Kd.R_mono (Kd.R_far (p := ⟨gb197, 2, none⟩) (Kd.R_far (p := ⟨gb197, 1, none⟩) (Kd.R_far (p := ⟨gb197, 0, none⟩) (Kd.R_types HO195.out BK197.out (by decide)) (fun _ hk => hk.2) (.slice Ao97 t190.length co97)) (fun _ hk => hk.2) (.slice Ao99 t193.length co99)) (fun _ hk => hk.2) (.int .i64 t196)) (fun _ h_ => h_.1)))); (case side4 => exact (Kd.R_reads' HO195.out).2.1); rintro e w' ⟨rfl, ⟨nd, rfl⟩⟩; refine ⟨_, rfl, ?_⟩))
    have n0_ : Aside0 (Kd.R (Kd.int .i64) 3 (((w96.setCell ⟨gb197, 0, none⟩ (.slice Ao97 t190.length co97)).setCell ⟨gb197, 1, none⟩ (.slice Ao99 t193.length co99)).setCell ⟨gb197, 2, none⟩ (.int .i64 t196)) w.heap.size (fun k_ => some k_ ≠ (.slice Ao101 t184.length co101 : Value).ownBlock ∧ some k_ ≠ (.slice Ao97 t190.length co97 : Value).ownBlock ∧ some k_ ≠ (.slice Ao99 t193.length co99 : Value).ownBlock) (.slice Ao100 t183.length co100) t183) := ⟨by (with_reducible repeat (first | apply Kd.R_alloc | apply Kd.R_drewN | apply Kd.R_drew)); exact Kd.R_mono (Kd.R_far (p := ⟨gb197, 2, none⟩) (Kd.R_far (p := ⟨gb197, 1, none⟩) (Kd.R_far (p := ⟨gb197, 0, none⟩) (Kd.R_types HO187.out BK197.out (by decide)) (fun _ hk => hk.2) (.slice Ao97 t190.length co97)) (fun _ hk => hk.2) (.slice Ao99 t193.length co99)) (fun _ hk => hk.2) (.int .i64 t196)) (fun _ hk => ⟨hk.1.1.1, ⟨hk.1.1.2, hk.1.2⟩⟩)⟩
    have n1_ : Aside0 (Kd.R (Kd.int .i64) 3 (((w96.setCell ⟨gb197, 0, none⟩ (.slice Ao97 t190.length co97)).setCell ⟨gb197, 1, none⟩ (.slice Ao99 t193.length co99)).setCell ⟨gb197, 2, none⟩ (.int .i64 t196)) w.heap.size (fun k_ => some k_ ≠ (.slice Ao100 t183.length co100 : Value).ownBlock ∧ some k_ ≠ (.slice Ao97 t190.length co97 : Value).ownBlock ∧ some k_ ≠ (.slice Ao99 t193.length co99 : Value).ownBlock) (.slice Ao101 t184.length co101) t184) := ⟨by (with_reducible repeat (first | apply Kd.R_alloc | apply Kd.R_drewN | apply Kd.R_drew)); exact Kd.R_mono (Kd.R_far (p := ⟨gb197, 2, none⟩) (Kd.R_far (p := ⟨gb197, 1, none⟩) (Kd.R_far (p := ⟨gb197, 0, none⟩) (Kd.R_types HO189.out BK197.out (by decide)) (fun _ hk => hk.2) (.slice Ao97 t190.length co97)) (fun _ hk => hk.2) (.slice Ao99 t193.length co99)) (fun _ hk => hk.2) (.int .i64 t196)) (fun _ hk => ⟨hk.1.1.1, ⟨hk.1.1.2, hk.1.2⟩⟩)⟩
    have n2_ : Aside0 (Kd.R (Kd.int .i64) 3 (((w96.setCell ⟨gb197, 0, none⟩ (.slice Ao97 t190.length co97)).setCell ⟨gb197, 1, none⟩ (.slice Ao99 t193.length co99)).setCell ⟨gb197, 2, none⟩ (.int .i64 t196)) w.heap.size (fun k_ => some k_ ≠ (.slice Ao100 t183.length co100 : Value).ownBlock ∧ some k_ ≠ (.slice Ao101 t184.length co101 : Value).ownBlock ∧ some k_ ≠ (.slice Ao99 t193.length co99 : Value).ownBlock) (.slice Ao97 t190.length co97) t190) := ⟨by (with_reducible repeat (first | apply Kd.R_alloc | apply Kd.R_drewN | apply Kd.R_drew)); exact Kd.R_mono (Kd.R_far (p := ⟨gb197, 2, none⟩) (Kd.R_far (p := ⟨gb197, 1, none⟩) (Kd.R_far (p := ⟨gb197, 0, none⟩) (Kd.R_types HO192.out BK197.out (by decide)) (fun _ hk => hk.2) (.slice Ao97 t190.length co97)) (fun _ hk => hk.2) (.slice Ao99 t193.length co99)) (fun _ hk => hk.2) (.int .i64 t196)) (fun _ hk => ⟨hk.1.1.2, ⟨hk.1.2, hk.1.1.1⟩⟩)⟩
    have n3_ : Aside0 (Kd.R (Kd.int .i64) 3 (((w96.setCell ⟨gb197, 0, none⟩ (.slice Ao97 t190.length co97)).setCell ⟨gb197, 1, none⟩ (.slice Ao99 t193.length co99)).setCell ⟨gb197, 2, none⟩ (.int .i64 t196)) w.heap.size (fun k_ => some k_ ≠ (.slice Ao100 t183.length co100 : Value).ownBlock ∧ some k_ ≠ (.slice Ao101 t184.length co101 : Value).ownBlock ∧ some k_ ≠ (.slice Ao97 t190.length co97 : Value).ownBlock) (.slice Ao99 t193.length co99) t193) := ⟨by (with_reducible repeat (first | apply Kd.R_alloc | apply Kd.R_drewN | apply Kd.R_drew)); exact Kd.R_mono (Kd.R_far (p := ⟨gb197, 2, none⟩) (Kd.R_far (p := ⟨gb197, 1, none⟩) (Kd.R_far (p := ⟨gb197, 0, none⟩) (Kd.R_types HO195.out BK197.out (by decide)) (fun _ hk => hk.2) (.slice Ao97 t190.length co97)) (fun _ hk => hk.2) (.slice Ao99 t193.length co99)) (fun _ hk => hk.2) (.int .i64 t196)) (fun _ hk => ⟨hk.1.1.2, ⟨hk.1.2, hk.1.1.1⟩⟩)⟩
    have n4_ : Aside0 ((((w96.setCell ⟨gb197, 0, none⟩ (.slice Ao97 t190.length co97)).setCell ⟨gb197, 1, none⟩ (.slice Ao99 t193.length co99)).setCell ⟨gb197, 2, none⟩ (.int .i64 t196)).heap[gb197]? = some (.cells #[.slice Ao97 t190.length co97, .slice Ao99 t193.length co99, .int .i64 t196] 58 (0, 0))) := ⟨by (with_reducible repeat (first | refine blk_drewN ?_ _ | refine blk_drew ?_ | refine blk_alloc ?_ _)); refine blk_put (cs := #[.slice Ao97 t190.length co97, .slice Ao99 t193.length co99, .int .i64 0]) ?_ 2 _ rfl; (with_reducible repeat (first | refine blk_drewN ?_ _ | refine blk_drew ?_ | refine blk_alloc ?_ _)); refine blk_put (cs := #[.slice Ao97 t190.length co97, .slice none 0 0, .int .i64 0]) ?_ 1 _ rfl; (with_reducible repeat (first | refine blk_drewN ?_ _ | refine blk_drew ?_ | refine blk_alloc ?_ _)); refine blk_put (cs := #[.slice none 0 0, .slice none 0 0, .int .i64 0]) ?_ 0 _ rfl; (with_reducible repeat (first | refine blk_drewN ?_ _ | refine blk_drew ?_ | refine blk_alloc ?_ _)); exact BK197.out⟩
    have n5_ : Aside0 (Below w.heap.size w (((w96.setCell ⟨gb197, 0, none⟩ (.slice Ao97 t190.length co97)).setCell ⟨gb197, 1, none⟩ (.slice Ao99 t193.length co99)).setCell ⟨gb197, 2, none⟩ (.int .i64 t196))) := ⟨by repeat (first | (with_reducible first | exact HB.out | apply below_alloc | apply pw_below_drewN | apply below_drew1 | refine below_set ?_ GE197.out) | exact HB.out)⟩
    (try clear HO187)
    (try clear HO189)
    (try clear HO192)
    (try clear HO195)
    (try clear BK197)
    (try clear HB)
    generalize (((w96.setCell ⟨gb197, 0, none⟩ (.slice Ao97 t190.length co97)).setCell ⟨gb197, 1, none⟩ (.slice Ao99 t193.length co99)).setCell ⟨gb197, 2, none⟩ (.int .i64 t196)) = w102 at n0_ n1_ n2_ n3_ n4_ n5_ ⊢
    have HO187 := n0_
    have HO189 := n1_
    have HO192 := n2_
    have HO195 := n3_
    have BK197 := n4_
    have HB := n5_
    clear n0_ n1_ n2_ n3_ n4_ n5_
    (try (rw [drewN_self w102]; generalize hq_ : World.drewN w102 _ = w102; have n0_ : Aside0 (Kd.R (Kd.int .i64) 3 w102 w.heap.size (fun k_ => some k_ ≠ (.slice Ao101 t184.length co101 : Value).ownBlock ∧ some k_ ≠ (.slice Ao97 t190.length co97 : Value).ownBlock ∧ some k_ ≠ (.slice Ao99 t193.length co99 : Value).ownBlock) (.slice Ao100 t183.length co100) t183) := ⟨by rw [← hq_]; exact (by (with_reducible repeat (first | apply Kd.R_alloc | apply Kd.R_drewN | apply Kd.R_drew)); (first | exact HO187.out | exact Kd.R_mono HO187.out (fun _ _ => trivial) | exact Kd.R_mono HO187.out (fun _ hk => hk.1)))⟩; have n1_ : Aside0 (Kd.R (Kd.int .i64) 3 w102 w.heap.size (fun k_ => some k_ ≠ (.slice Ao100 t183.length co100 : Value).ownBlock ∧ some k_ ≠ (.slice Ao97 t190.length co97 : Value).ownBlock ∧ some k_ ≠ (.slice Ao99 t193.length co99 : Value).ownBlock) (.slice Ao101 t184.length co101) t184) := ⟨by rw [← hq_]; exact (by (with_reducible repeat (first | apply Kd.R_alloc | apply Kd.R_drewN | apply Kd.R_drew)); (first | exact HO189.out | exact Kd.R_mono HO189.out (fun _ _ => trivial) | exact Kd.R_mono HO189.out (fun _ hk => hk.1)))⟩; have n2_ : Aside0 (Kd.R (Kd.int .i64) 3 w102 w.heap.size (fun k_ => some k_ ≠ (.slice Ao100 t183.length co100 : Value).ownBlock ∧ some k_ ≠ (.slice Ao101 t184.length co101 : Value).ownBlock ∧ some k_ ≠ (.slice Ao99 t193.length co99 : Value).ownBlock) (.slice Ao97 t190.length co97) t190) := ⟨by rw [← hq_]; exact (by (with_reducible repeat (first | apply Kd.R_alloc | apply Kd.R_drewN | apply Kd.R_drew)); (first | exact HO192.out | exact Kd.R_mono HO192.out (fun _ _ => trivial) | exact Kd.R_mono HO192.out (fun _ hk => hk.1)))⟩; have n3_ : Aside0 (Kd.R (Kd.int .i64) 3 w102 w.heap.size (fun k_ => some k_ ≠ (.slice Ao100 t183.length co100 : Value).ownBlock ∧ some k_ ≠ (.slice Ao101 t184.length co101 : Value).ownBlock ∧ some k_ ≠ (.slice Ao97 t190.length co97 : Value).ownBlock) (.slice Ao99 t193.length co99) t193) := ⟨by rw [← hq_]; exact (by (with_reducible repeat (first | apply Kd.R_alloc | apply Kd.R_drewN | apply Kd.R_drew)); (first | exact HO195.out | exact Kd.R_mono HO195.out (fun _ _ => trivial) | exact Kd.R_mono HO195.out (fun _ hk => hk.1)))⟩; have n4_ : Aside0 (w102.heap[gb197]? = some (.cells #[.slice Ao97 t190.length co97, .slice Ao99 t193.length co99, .int .i64 t196] 58 (0, 0))) := ⟨by rw [← hq_]; exact (by (with_reducible repeat (first | refine blk_drewN ?_ _ | refine blk_drew ?_ | refine blk_alloc ?_ _)); exact BK197.out)⟩; have n5_ : Aside0 (Below w.heap.size w w102) := ⟨by rw [← hq_]; exact (by repeat (first | (with_reducible first | exact HB.out | apply below_alloc | apply pw_below_drewN | apply below_drew1 | refine below_set ?_ GE197.out) | exact HB.out))⟩; clear HO187 HO189 HO192 HO195 BK197 HB hq_; have HO187 := n0_; have HO189 := n1_; have HO192 := n2_; have HO195 := n3_; have BK197 := n4_; have HB := n5_; clear n0_ n1_ n2_ n3_ n4_ n5_))
    have n0_ := Aside0.mk (Kd.R_drew HO187.out)
    have n1_ := Aside0.mk (Kd.R_drew HO189.out)
    have n2_ := Aside0.mk (Kd.R_drew HO192.out)
    have n3_ := Aside0.mk (Kd.R_drew HO195.out)
    have n4_ := Aside0.mk (blk_drew BK197.out)
    have n5_ := Aside0.mk (below_drew1 HB.out)
    clear HO187
    clear HO189
    clear HO192
    clear HO195
    clear BK197
    clear HB
    have HO187 := n0_
    have HO189 := n1_
    have HO192 := n2_
    have HO195 := n3_
    have BK197 := n4_
    have HB := n5_
    clear n0_ n1_ n2_ n3_ n4_ n5_
    refine start_ (n := 10) (S := fun w' => w'.cell? ⟨gb197, 0, none⟩ = some (.slice Ao97 t190.length co97) ∧ w'.cell? ⟨gb197, 1, none⟩ = some (.slice Ao99 t193.length co99) ∧ w'.cell? ⟨gb197, 2, none⟩ = some (.int .i64 t196)) (ds := []) #[false, false, false, false, false, false, false, false, false, false] (by kernel_rfl) rfl rfl ⟨(blk_cell BK197.out 0).trans rfl, (blk_cell BK197.out 1).trans rfl, (blk_cell BK197.out 2).trans rfl⟩ (fun hHeld => ?_); refine with_tabW earshotlaw10_bins.tab5 earshotlaw10_bins.bits5 (fun HT_ HW_ => ?_)
    generalize w102.drew = w103 at HO187 HO189 HO192 HO195 BK197 HB hHeld ⊢
    refine pure_ (i := 0) (N := some 27) (v := ?_) (a' := ?_) #[true, false, false, false, false, false, false, false, false, false] rfl rfl (any_of HT_.out (by kernel_rfl)) (fun _ _ _ h => h) (Or.inl ⟨by rfl, ?_⟩) ?_ ?_
    rotate_left
    · intro w'
      go_simp
      with_reducible rfl
    rotate_left
    · simp only [Act.put, List.setIfInBounds_toArray, List.set_cons_zero, List.set_cons_succ, i64_w, i32_w]
      rfl
    refine pure_ (i := 1) (N := some 28) (v := ?_) (a' := ?_) #[true, true, false, false, false, false, false, false, false, false] rfl rfl (any_of HT_.out (by kernel_rfl)) (fun _ _ _ h => h) (Or.inl ⟨by rfl, ?_⟩) ?_ ?_
    rotate_left
    · intro w'
      go_simp
      with_reducible rfl
    rotate_left
    · simp only [Act.put, List.setIfInBounds_toArray, List.set_cons_zero, List.set_cons_succ, i64_w, i32_w]
      rfl
    refine pure_ (i := 3) (N := some 30) (v := ?_) (a' := ?_) #[true, true, false, true, false, false, false, false, false, false] rfl rfl (any_of HT_.out (by kernel_rfl)) (fun _ _ _ h => h) (Or.inl ⟨by rfl, ?_⟩) ?_ ?_
    rotate_left
    · intro w'
      go_simp
      with_reducible rfl
    rotate_left
    · simp only [Act.put, List.setIfInBounds_toArray, List.set_cons_zero, List.set_cons_succ, i64_w, i32_w]
      rfl
    refine pure_ (i := 5) (N := some 32) (v := ?_) (a' := ?_) #[true, true, false, true, false, true, false, false, false, false] rfl rfl (any_of HT_.out (by kernel_rfl)) (fun _ _ _ h => h) (Or.inl ⟨by rfl, ?_⟩) ?_ ?_
    rotate_left
    · intro w'
      go_simp
      with_reducible rfl
    rotate_left
    · simp only [Act.put, List.setIfInBounds_toArray, List.set_cons_zero, List.set_cons_succ, i64_w, i32_w]
      rfl
    refine take_ (i := 4) (N := some 31) (v := ?_) (a' := ?_) #[true, true, false, true, true, true, false, false, false, false] rfl rfl (take_ofW HT_.out HW_.out (by kernel_rfl)) (fun _ _ _ h => h) (Or.inl ⟨by rfl, ?_⟩) hHeld ?_ ?_
    rotate_left
    · rintro w' ⟨s0, s1, s2⟩
      go_simp
      with_reducible rfl
    rotate_left
    · simp only [Act.put, List.setIfInBounds_toArray, List.set_cons_zero, List.set_cons_succ, i64_w, i32_w]
      rfl
    refine take_ (i := 6) (N := some 33) (v := ?_) (a' := ?_) #[true, true, false, true, true, true, true, false, false, false] rfl rfl (take_ofW HT_.out HW_.out (by kernel_rfl)) (fun _ _ _ h => h) (Or.inl ⟨by rfl, ?_⟩) hHeld ?_ ?_
    rotate_left
    · rintro w' ⟨s0, s1, s2⟩
      go_simp
      with_reducible rfl
    rotate_left
    · simp only [Act.put, List.setIfInBounds_toArray, List.set_cons_zero, List.set_cons_succ, i64_w, i32_w]
      rfl
    refine one_ (i := 2) (N := some 29) #[true, true, true, true, true, true, true, false, false, false] rfl rfl (one_of HT_.out (by kernel_rfl)) (by decide) (fun K hK => ?_)
    refine goes_ Tryd.func52 (by kernel_rfl) rfl #[.slice Ao100 t183.length co100, .slice Ao101 t184.length co101] (by first | rfl | exact wanted_on rfl rfl rfl (by first | assumption | rfl | (simp [*]; done))) rfl rfl (by (try simp only [List.map_toArray, List.map_cons, List.map_nil]); first | done | rfl | (simp only [List.length_drop, List.length_take]; rfl)) ?_
    with_reducible refine (fft_Power.calls _ _ t183 _ _ t184 t200 _ ?side1 ?side2 ?side3 ?side4 A6.out).mono ?_
    (case side1 => repeat (first | exact (Kd.R_reads' HO187.out).2.2 | (with_reducible refine Kd.C_alloc ?_ _) | (with_reducible refine Kd.C_drewN ?_ _) | (with_reducible refine Kd.C_drew ?_)))
    (case side2 => exact (Kd.R_reads' HO187.out).2.1)
    (case side3 => repeat (first | exact (Kd.R_reads' HO189.out).2.2 | (with_reducible refine Kd.C_alloc ?_ _) | (with_reducible refine Kd.C_drewN ?_ _) | (with_reducible refine Kd.C_drew ?_)))
    (case side4 => exact (Kd.R_reads' HO189.out).2.1)
    rintro e w104 ⟨v201, rfl, ho0, hb⟩
    refine ⟨_, rfl, ?_⟩
    have n0_ := Aside0.mk (Kd.R_elder' (by (with_reducible repeat (first | apply Kd.R_alloc | apply Kd.R_drewN | apply Kd.R_drew)); (first | exact HO187.out | exact Kd.R_mono HO187.out (fun _ _ => trivial) | exact Kd.R_mono HO187.out (fun _ hk => hk.1))) (Kd.R_base ho0) hb)
    have n1_ := Aside0.mk (Kd.R_elder' (by (with_reducible repeat (first | apply Kd.R_alloc | apply Kd.R_drewN | apply Kd.R_drew)); (first | exact HO189.out | exact Kd.R_mono HO189.out (fun _ _ => trivial) | exact Kd.R_mono HO189.out (fun _ hk => hk.1))) (Kd.R_base ho0) hb)
    have n2_ := Aside0.mk (Kd.R_elder' (by (with_reducible repeat (first | apply Kd.R_alloc | apply Kd.R_drewN | apply Kd.R_drew)); (first | exact HO192.out | exact Kd.R_mono HO192.out (fun _ _ => trivial) | exact Kd.R_mono HO192.out (fun _ hk => hk.1))) (Kd.R_base ho0) hb)
    have n3_ := Aside0.mk (Kd.R_elder' (by (with_reducible repeat (first | apply Kd.R_alloc | apply Kd.R_drewN | apply Kd.R_drew)); (first | exact HO195.out | exact Kd.R_mono HO195.out (fun _ _ => trivial) | exact Kd.R_mono HO195.out (fun _ hk => hk.1))) (Kd.R_base ho0) hb)
    have n4_ := Aside0.mk (Kd.R_lower (Kd.R_new' (Kd.R_new' (Kd.R_new' (Kd.R_new' ho0 (Kd.R_lt (by (with_reducible repeat (first | apply Kd.R_alloc | apply Kd.R_drewN | apply Kd.R_drew)); (first | exact HO187.out | exact Kd.R_mono HO187.out (fun _ _ => trivial) | exact Kd.R_mono HO187.out (fun _ hk => hk.1))))) (Kd.R_lt (by (with_reducible repeat (first | apply Kd.R_alloc | apply Kd.R_drewN | apply Kd.R_drew)); (first | exact HO189.out | exact Kd.R_mono HO189.out (fun _ _ => trivial) | exact Kd.R_mono HO189.out (fun _ hk => hk.1))))) (Kd.R_lt (by (with_reducible repeat (first | apply Kd.R_alloc | apply Kd.R_drewN | apply Kd.R_drew)); (first | exact HO192.out | exact Kd.R_mono HO192.out (fun _ _ => trivial) | exact Kd.R_mono HO192.out (fun _ hk => hk.1))))) (Kd.R_lt (by (with_reducible repeat (first | apply Kd.R_alloc | apply Kd.R_drewN | apply Kd.R_drew)); (first | exact HO195.out | exact Kd.R_mono HO195.out (fun _ _ => trivial) | exact Kd.R_mono HO195.out (fun _ hk => hk.1))))) (below_size (by repeat (first | (with_reducible first | exact HB.out | apply below_alloc | apply pw_below_drewN | apply below_drew1 | refine below_set ?_ GE197.out) | exact HB.out))))
    have n5_ := Aside0.mk (blk_below (g := gb197) (o := .cells #[.slice Ao97 t190.length co97, .slice Ao99 t193.length co99, .int .i64 t196] 58 (0, 0)) (by (with_reducible repeat (first | refine blk_drewN ?_ _ | refine blk_drew ?_ | refine blk_alloc ?_ _)); exact BK197.out) hb)
    have n6_ := Aside0.mk (below_step (by repeat (first | (with_reducible first | exact HB.out | apply below_alloc | apply pw_below_drewN | apply below_drew1 | refine below_set ?_ GE197.out) | exact HB.out)) hb)
    clear HO187
    clear HO189
    clear HO192
    clear HO195
    clear BK197
    clear HB
    have HO187 := n0_
    have HO189 := n1_
    have HO192 := n2_
    have HO195 := n3_
    have HO202 := n4_
    have BK197 := n5_
    have HB := n6_
    clear n0_ n1_ n2_ n3_ n4_ n5_ n6_
    (try clear hb)
    (try clear hb2)
    (try clear hk)
    (try clear hi)
    (try clear ho0)
    refine hK.out _ _ ⟨(blk_cell BK197.out 0).trans rfl, (blk_cell BK197.out 1).trans rfl, (blk_cell BK197.out 2).trans rfl⟩ (fun hHeld => ?_)
    clear hK K
    refine norm_ (a' := ?_) ?_ ?_
    rotate_left
    · show Act.put _ (some 29) _ = _
      simp only [Act.put, List.setIfInBounds_toArray, List.set_cons_zero, List.set_cons_succ, i64_w, i32_w]
      rfl
    refine one_ (i := 7) (N := some 34) #[true, true, true, true, true, true, true, true, false, false] rfl rfl (one_of HT_.out (by kernel_rfl)) (by decide) (fun K hK => ?_)
    refine goes_ Tryd.func53 (by kernel_rfl) rfl #[.slice Ao97 t190.length co97, .slice Ao99 t193.length co99] (by first | rfl | exact wanted_on rfl rfl rfl (by first | assumption | rfl | (simp [*]; done))) rfl rfl (by (try simp only [List.map_toArray, List.map_cons, List.map_nil]); first | done | rfl | (simp only [List.length_drop, List.length_take]; rfl)) ?_
    with_reducible refine (earshotref10_Power.calls k _ _ t190 _ _ t193 t203 _ ?side1 ?side2 ?side3 ?side4 A7.out).mono ?_
    (case side1 => repeat (first | exact (Kd.R_reads' HO192.out).2.2 | (with_reducible refine Kd.C_alloc ?_ _) | (with_reducible refine Kd.C_drewN ?_ _) | (with_reducible refine Kd.C_drew ?_)))
    (case side2 => exact (Kd.R_reads' HO192.out).2.1)
    (case side3 => repeat (first | exact (Kd.R_reads' HO195.out).2.2 | (with_reducible refine Kd.C_alloc ?_ _) | (with_reducible refine Kd.C_drewN ?_ _) | (with_reducible refine Kd.C_drew ?_)))
    (case side4 => exact (Kd.R_reads' HO195.out).2.1)
    rintro e w105 ⟨v204, rfl, ho0, hb⟩
    refine ⟨_, rfl, ?_⟩
    have n0_ := Aside0.mk (Kd.R_elder' (by (with_reducible repeat (first | apply Kd.R_alloc | apply Kd.R_drewN | apply Kd.R_drew)); (first | exact HO187.out | exact Kd.R_mono HO187.out (fun _ _ => trivial) | exact Kd.R_mono HO187.out (fun _ hk => hk.1))) (Kd.R_base ho0) hb)
    have n1_ := Aside0.mk (Kd.R_elder' (by (with_reducible repeat (first | apply Kd.R_alloc | apply Kd.R_drewN | apply Kd.R_drew)); (first | exact HO189.out | exact Kd.R_mono HO189.out (fun _ _ => trivial) | exact Kd.R_mono HO189.out (fun _ hk => hk.1))) (Kd.R_base ho0) hb)
    have n2_ := Aside0.mk (Kd.R_elder' (by (with_reducible repeat (first | apply Kd.R_alloc | apply Kd.R_drewN | apply Kd.R_drew)); (first | exact HO192.out | exact Kd.R_mono HO192.out (fun _ _ => trivial) | exact Kd.R_mono HO192.out (fun _ hk => hk.1))) (Kd.R_base ho0) hb)
    have n3_ := Aside0.mk (Kd.R_elder' (by (with_reducible repeat (first | apply Kd.R_alloc | apply Kd.R_drewN | apply Kd.R_drew)); (first | exact HO195.out | exact Kd.R_mono HO195.out (fun _ _ => trivial) | exact Kd.R_mono HO195.out (fun _ hk => hk.1))) (Kd.R_base ho0) hb)
    have n4_ := Aside0.mk (Kd.R_elder' (by (with_reducible repeat (first | apply Kd.R_alloc | apply Kd.R_drewN | apply Kd.R_drew)); (first | exact HO202.out | exact Kd.R_mono HO202.out (fun _ _ => trivial) | exact Kd.R_mono HO202.out (fun _ hk => hk.1))) (Kd.R_base ho0) hb)
    have n5_ := Aside0.mk (Kd.R_lower (Kd.R_new' (Kd.R_new' (Kd.R_new' (Kd.R_new' (Kd.R_new' ho0 (Kd.R_lt (by (with_reducible repeat (first | apply Kd.R_alloc | apply Kd.R_drewN | apply Kd.R_drew)); (first | exact HO187.out | exact Kd.R_mono HO187.out (fun _ _ => trivial) | exact Kd.R_mono HO187.out (fun _ hk => hk.1))))) (Kd.R_lt (by (with_reducible repeat (first | apply Kd.R_alloc | apply Kd.R_drewN | apply Kd.R_drew)); (first | exact HO189.out | exact Kd.R_mono HO189.out (fun _ _ => trivial) | exact Kd.R_mono HO189.out (fun _ hk => hk.1))))) (Kd.R_lt (by (with_reducible repeat (first | apply Kd.R_alloc | apply Kd.R_drewN | apply Kd.R_drew)); (first | exact HO192.out | exact Kd.R_mono HO192.out (fun _ _ => trivial) | exact Kd.R_mono HO192.out (fun _ hk => hk.1))))) (Kd.R_lt (by (with_reducible repeat (first | apply Kd.R_alloc | apply Kd.R_drewN | apply Kd.R_drew)); (first | exact HO195.out | exact Kd.R_mono HO195.out (fun _ _ => trivial) | exact Kd.R_mono HO195.out (fun _ hk => hk.1))))) (Kd.R_lt (by (with_reducible repeat (first | apply Kd.R_alloc | apply Kd.R_drewN | apply Kd.R_drew)); (first | exact HO202.out | exact Kd.R_mono HO202.out (fun _ _ => trivial) | exact Kd.R_mono HO202.out (fun _ hk => hk.1))))) (below_size (by repeat (first | (with_reducible first | exact HB.out | apply below_alloc | apply pw_below_drewN | apply below_drew1 | refine below_set ?_ GE197.out) | exact HB.out))))
    have n6_ := Aside0.mk (blk_below (g := gb197) (o := .cells #[.slice Ao97 t190.length co97, .slice Ao99 t193.length co99, .int .i64 t196] 58 (0, 0)) (by (with_reducible repeat (first | refine blk_drewN ?_ _ | refine blk_drew ?_ | refine blk_alloc ?_ _)); exact BK197.out) hb)
    have n7_ := Aside0.mk (below_step (by repeat (first | (with_reducible first | exact HB.out | apply below_alloc | apply pw_below_drewN | apply below_drew1 | refine below_set ?_ GE197.out) | exact HB.out)) hb)
    clear HO187
    clear HO189
    clear HO192
    clear HO195
    clear HO202
    clear BK197
    clear HB
    have HO187 := n0_
    have HO189 := n1_
    have HO192 := n2_
    have HO195 := n3_
    have HO202 := n4_
    have HO205 := n5_
    have BK197 := n6_
    have HB := n7_
    clear n0_ n1_ n2_ n3_ n4_ n5_ n6_ n7_
    (try clear hb)
    (try clear hb2)
    (try clear hk)
    (try clear hi)
    (try clear ho0)
    obtain ⟨Ao106, co106, eo106⟩ := Kd.R_slice HO202.out
    (first | subst eo106 | (injection eo106 with f1_ f2_ f3_; have f4_ := f1_.symm; have f5_ := f3_.symm; clear f1_ f2_ f3_; subst f4_; subst f5_))
    obtain ⟨Ao107, co107, eo107⟩ := Kd.R_slice HO205.out
    (first | subst eo107 | (injection eo107 with f1_ f2_ f3_; have f4_ := f1_.symm; have f5_ := f3_.symm; clear f1_ f2_ f3_; subst f4_; subst f5_))
    refine hK.out _ _ ⟨(blk_cell BK197.out 0).trans rfl, (blk_cell BK197.out 1).trans rfl, (blk_cell BK197.out 2).trans rfl⟩ (fun hHeld => ?_)
    clear hK K
    refine norm_ (a' := ?_) ?_ ?_
    rotate_left
    · show Act.put _ (some 34) _ = _
      simp only [Act.put, List.setIfInBounds_toArray, List.set_cons_zero, List.set_cons_succ, i64_w, i32_w]
      rfl
    refine one_ (i := 8) (N := some 35) #[true, true, true, true, true, true, true, true, true, false] rfl rfl (one_of HT_.out (by kernel_rfl)) (by decide) (fun K hK => ?_)
    refine goes_ Tryd.func19 (by kernel_rfl) rfl #[.slice Ao106 t200.length co106, .slice Ao107 t203.length co107] (by first | rfl | exact wanted_on rfl rfl rfl (by first | assumption | rfl | (simp [*]; done))) rfl rfl (by (try simp only [List.map_toArray, List.map_cons, List.map_nil]); first | done | rfl | (simp only [List.length_drop, List.length_take]; rfl)) ?_
    with_reducible refine (earshotref04_Same.calls k _ _ t200 _ _ t203 t206 _ ?side1 ?side2 ?side3 ?side4 A8.out).mono ?_
    (case side1 => repeat (first | exact (Kd.R_reads' HO202.out).2.2 | (with_reducible refine Kd.C_alloc ?_ _) | (with_reducible refine Kd.C_drewN ?_ _) | (with_reducible refine Kd.C_drew ?_)))
    (case side2 => exact (Kd.R_reads' HO202.out).2.1)
    (case side3 => repeat (first | exact (Kd.R_reads' HO205.out).2.2 | (with_reducible refine Kd.C_alloc ?_ _) | (with_reducible refine Kd.C_drewN ?_ _) | (with_reducible refine Kd.C_drew ?_)))
    (case side4 => exact (Kd.R_reads' HO205.out).2.1)
    rintro e w' ⟨rfl, ⟨nd, rfl⟩⟩
    refine ⟨_, rfl, ?_⟩
    refine hK.out _ _ ⟨(blk_cell BK197.out 0).trans rfl, (blk_cell BK197.out 1).trans rfl, (blk_cell BK197.out 2).trans rfl⟩ (fun hHeld => ?_)
    clear hK K
    refine norm_ (a' := ?_) ?_ ?_
    rotate_left
    · show Act.put _ (some 35) _ = _
      simp only [Act.put, List.setIfInBounds_toArray, List.set_cons_zero, List.set_cons_succ, i64_w, i32_w]
      rfl
    refine pure_ (i := 9) (N := some 9) (v := ?_) (a' := ?_) #[true, true, true, true, true, true, true, true, true, true] rfl rfl (any_of HT_.out (by kernel_rfl)) (fun _ _ _ h => h) (Or.inl ⟨by rfl, ?_⟩) ?_ ?_
    rotate_left
    · intro w'
      go_simp
      with_reducible rfl
    rotate_left
    · simp only [Act.put, List.setIfInBounds_toArray, List.set_cons_zero, List.set_cons_succ, i64_w, i32_w]
      rfl
    refine done_ (done_of HT_.out (by kernel_rfl)) ?_
    try go_wp2_with (first | ((with_reducible refine gate_callee (f := 47) rfl ?_); refine goesL_ (some 38) rfl rfl Tryd.func47 (by kernel_rfl) rfl #[.int .i64 (l0.length : Int)] rfl (by (try simp only [List.map_toArray, List.map_cons, List.map_nil]); first | done | rfl | (simp only [List.length_drop, List.length_take]; rfl)) ?_; (with_reducible refine (earshotref10_May.calls (l0.length : Int) t207 _ A9.out).mono ?_); rintro e w' ⟨rfl, ⟨nd, rfl⟩⟩; refine ⟨_, rfl, ?_⟩))
    go_ret
    exact ⟨by first | rfl | (simp [errW_none, errW_some] <;> rfl) | (simp [*, errW_none, errW_some] <;> rfl), by repeat (first | (with_reducible first | exact HB.out | apply below_alloc | apply pw_below_drewN | apply below_drew1 | refine below_set ?_ GE197.out) | exact HB.out)⟩

end Go.Proofs.YtphmfecabbellaaDoor.PFftBins
