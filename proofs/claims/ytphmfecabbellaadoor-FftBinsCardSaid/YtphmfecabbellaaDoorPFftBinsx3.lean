-- Written by a program of this work (wip/tools) for this claim; Lean checks it.
import Derived.Test.YtphmfecabbellaaDoorPFftBinsx0
import Derived.Test.YtphmfecabbellaaDoorPFftBinsx1
import Derived.Test.YtphmfecabbellaaDoorPFftBinsx2
namespace Go.Proofs.YtphmfecabbellaaDoor.PFftBins
open Go.RowKit Go.Proofs.YtphmfecabbellaaDoorW.PrintWords Go.Proofs.YtphmfecabbellaaDoorW.PrintLast Go.Proofs.YtphmfecabbellaaDoorW.PrintMore
attribute [local go_sem] max2_int min2_int max_two min_two max_three min_three max_four min_four   -- for this text's walks alone
set_option linter.unusedVariables false
set_option linter.unusedSimpArgs false

/-! ### spin_Real: function 16 -/
def sp_sum (l : List Int) (T : Int → Int) (s : Nat) : Nat → Int
  | 0 => 0
  | n + 1 => wrap64 (sp_sum l T s n + wrap64 (l.getD n 0 * T ((n : Int) * (s : Int))))
def sp_may (h : Nat) : Bool := h == 1 || h == 2 || h == 4 || h == 8 || h == 16 || h == 32
def sp_part (l : List Int) (T : Int → Int) : Int := if sp_may l.length = true then sp_sum l T (32 / l.length) l.length else 0
def cosT (x : Int) : Int := cosAt (x % 64)
def sinT (x : Int) : Int := cosAt ((x % 64 - 16) % 64)
theorem sp_mask : ∀ h : Fin 33, h.1 = 0 ∨ sp_may h.1 = true ∨ (Go.bits .and .i64 ((h.1 : Nat) : Int) (((h.1 : Nat) : Int) - 1) != 0) = true := by decide +kernel
theorem sp_may_cases {h : Nat} (hm : sp_may h = true) : h = 1 ∨ h = 2 ∨ h = 4 ∨ h = 8 ∨ h = 16 ∨ h = 32 := by
  simp only [sp_may, Bool.or_eq_true, beq_iff_eq] at hm
  omega
theorem sp_cos {x : Int} (h0 : -9223372036854775808 ≤ x) (h1 : x ≤ 9223372036854775807) : circle_Cos.f x = some (cosT x) := by
  unfold circle_Cos.f
  rw [if_pos (by simp [ci64b, h0, h1])]
  rfl
set_option maxHeartbeats 16000000 in
theorem sum_cos (A0 : Option Addr) (h c0 : Nat) (l0 : List Int) (w : World) (hG : GlobA w) (hl : l0.length = h) (hr0 : Kd.C (Kd.int .i64) w A0 h l0) (hh : h ≤ 1000000) :
    Calls Tryd.prog 34 #[.slice A0 h c0, .func (.func 35) #[] #[]] w fun e w' => e = .returned (.int .i64 (sp_part l0 cosT)) ∧ Drawn0 w w' := by
  have HG := Aside0.mk hG
  have HC := Aside0.mk hr0
  clear hG hr0
  rcases Bool.eq_false_or_eq_true (sp_may h) with hm | hm
  · have HV : Aside0 (sp_part l0 cosT = sp_sum l0 cosT (32 / h) h) := ⟨by unfold sp_part; rw [hl, if_pos hm]⟩
    have HL := Aside0.mk hl
    clear hl
    rcases sp_may_cases hm with rfl | rfl | rfl | rfl | rfl | rfl
    · clear hm hh
      go_enter Tryd.func34, Tryd.ntmps34
      go_wp2
      go_loopw [6, 26] (fun v6 v wr => ∃ (i : Nat), i ≤ 1 ∧ v = .int .i64 (i : Int) ∧ v6 = .int .i64 (sp_sum l0 cosT (32 / 1) i) ∧ Aside0 (∃ k, wr = w.drewN k)) (fun _ v _ => 1 - (intOf v).toNat)
      case atStart => exact ⟨0, by omega, rfl, rfl, ⟨⟨0, rfl⟩⟩⟩
      case round =>
        obtain ⟨i, hi, rfl, rfl, HK⟩ := hrel
        obtain ⟨k, rfl⟩ := HK.out
        by_cases hlt : i < 1
        · obtain ⟨ad, rfl, hcs⟩ := sp_ad HC.out (by omega)
          have hcell := sp_cell HC.out i hlt
          obtain ⟨x, hx⟩ : ∃ x, l0.getD i 0 = x := ⟨_, rfl⟩
          rw [hx] at hcell
          obtain ⟨s, hs⟩ : ∃ s, sp_sum l0 cosT (32 / 1) i = s := ⟨_, rfl⟩
          have HN : Aside0 (sp_sum l0 cosT (32 / 1) (i + 1) = wrap64 (s + wrap64 (x * cosT ((i : Int) * 32)))) := ⟨by rw [sp_sum, hs, hx]; rfl⟩
          have HF : Aside0 (circle_Cos.f ((i : Int) * 32) = some (cosT ((i : Int) * 32))) := ⟨sp_cos (by omega) (by omega)⟩
          clear hcs hx
          rw [hs]
          clear hs
          go_wp2_with (go_at_call 35; (with_reducible refine (circle_Cos.calls _ _ _ (HG.out.drewN _) HF.out).mono ?_); rintro e w' ⟨rfl, ⟨nd, rfl⟩⟩)
          go_roundw
          case rel => exact ⟨i + 1, by omega, by go_num, by rw [HN.out], ⟨⟨_, rfl⟩⟩⟩
          case measure => simp [intOf]; omega
        · obtain rfl : i = 1 := by omega
          go_wp2
          go_ret
          exact ⟨by rw [HV.out]; rfl, ⟨⟨_, rfl⟩⟩⟩
    · clear hm hh
      go_enter Tryd.func34, Tryd.ntmps34
      go_wp2
      go_loopw [6, 26] (fun v6 v wr => ∃ (i : Nat), i ≤ 2 ∧ v = .int .i64 (i : Int) ∧ v6 = .int .i64 (sp_sum l0 cosT (32 / 2) i) ∧ Aside0 (∃ k, wr = w.drewN k)) (fun _ v _ => 2 - (intOf v).toNat)
      case atStart => exact ⟨0, by omega, rfl, rfl, ⟨⟨0, rfl⟩⟩⟩
      case round =>
        obtain ⟨i, hi, rfl, rfl, HK⟩ := hrel
        obtain ⟨k, rfl⟩ := HK.out
        by_cases hlt : i < 2
        · obtain ⟨ad, rfl, hcs⟩ := sp_ad HC.out (by omega)
          have hcell := sp_cell HC.out i hlt
          obtain ⟨x, hx⟩ : ∃ x, l0.getD i 0 = x := ⟨_, rfl⟩
          rw [hx] at hcell
          obtain ⟨s, hs⟩ : ∃ s, sp_sum l0 cosT (32 / 2) i = s := ⟨_, rfl⟩
          have HN : Aside0 (sp_sum l0 cosT (32 / 2) (i + 1) = wrap64 (s + wrap64 (x * cosT ((i : Int) * 16)))) := ⟨by rw [sp_sum, hs, hx]; rfl⟩
          have HF : Aside0 (circle_Cos.f ((i : Int) * 16) = some (cosT ((i : Int) * 16))) := ⟨sp_cos (by omega) (by omega)⟩
          clear hcs hx
          rw [hs]
          clear hs
          go_wp2_with (go_at_call 35; (with_reducible refine (circle_Cos.calls _ _ _ (HG.out.drewN _) HF.out).mono ?_); rintro e w' ⟨rfl, ⟨nd, rfl⟩⟩)
          go_roundw
          case rel => exact ⟨i + 1, by omega, by go_num, by rw [HN.out], ⟨⟨_, rfl⟩⟩⟩
          case measure => simp [intOf]; omega
        · obtain rfl : i = 2 := by omega
          go_wp2
          go_ret
          exact ⟨by rw [HV.out]; rfl, ⟨⟨_, rfl⟩⟩⟩
    · clear hm hh
      go_enter Tryd.func34, Tryd.ntmps34
      go_wp2
      go_loopw [6, 26] (fun v6 v wr => ∃ (i : Nat), i ≤ 4 ∧ v = .int .i64 (i : Int) ∧ v6 = .int .i64 (sp_sum l0 cosT (32 / 4) i) ∧ Aside0 (∃ k, wr = w.drewN k)) (fun _ v _ => 4 - (intOf v).toNat)
      case atStart => exact ⟨0, by omega, rfl, rfl, ⟨⟨0, rfl⟩⟩⟩
      case round =>
        obtain ⟨i, hi, rfl, rfl, HK⟩ := hrel
        obtain ⟨k, rfl⟩ := HK.out
        by_cases hlt : i < 4
        · obtain ⟨ad, rfl, hcs⟩ := sp_ad HC.out (by omega)
          have hcell := sp_cell HC.out i hlt
          obtain ⟨x, hx⟩ : ∃ x, l0.getD i 0 = x := ⟨_, rfl⟩
          rw [hx] at hcell
          obtain ⟨s, hs⟩ : ∃ s, sp_sum l0 cosT (32 / 4) i = s := ⟨_, rfl⟩
          have HN : Aside0 (sp_sum l0 cosT (32 / 4) (i + 1) = wrap64 (s + wrap64 (x * cosT ((i : Int) * 8)))) := ⟨by rw [sp_sum, hs, hx]; rfl⟩
          have HF : Aside0 (circle_Cos.f ((i : Int) * 8) = some (cosT ((i : Int) * 8))) := ⟨sp_cos (by omega) (by omega)⟩
          clear hcs hx
          rw [hs]
          clear hs
          go_wp2_with (go_at_call 35; (with_reducible refine (circle_Cos.calls _ _ _ (HG.out.drewN _) HF.out).mono ?_); rintro e w' ⟨rfl, ⟨nd, rfl⟩⟩)
          go_roundw
          case rel => exact ⟨i + 1, by omega, by go_num, by rw [HN.out], ⟨⟨_, rfl⟩⟩⟩
          case measure => simp [intOf]; omega
        · obtain rfl : i = 4 := by omega
          go_wp2
          go_ret
          exact ⟨by rw [HV.out]; rfl, ⟨⟨_, rfl⟩⟩⟩
    · clear hm hh
      go_enter Tryd.func34, Tryd.ntmps34
      go_wp2
      go_loopw [6, 26] (fun v6 v wr => ∃ (i : Nat), i ≤ 8 ∧ v = .int .i64 (i : Int) ∧ v6 = .int .i64 (sp_sum l0 cosT (32 / 8) i) ∧ Aside0 (∃ k, wr = w.drewN k)) (fun _ v _ => 8 - (intOf v).toNat)
      case atStart => exact ⟨0, by omega, rfl, rfl, ⟨⟨0, rfl⟩⟩⟩
      case round =>
        obtain ⟨i, hi, rfl, rfl, HK⟩ := hrel
        obtain ⟨k, rfl⟩ := HK.out
        by_cases hlt : i < 8
        · obtain ⟨ad, rfl, hcs⟩ := sp_ad HC.out (by omega)
          have hcell := sp_cell HC.out i hlt
          obtain ⟨x, hx⟩ : ∃ x, l0.getD i 0 = x := ⟨_, rfl⟩
          rw [hx] at hcell
          obtain ⟨s, hs⟩ : ∃ s, sp_sum l0 cosT (32 / 8) i = s := ⟨_, rfl⟩
          have HN : Aside0 (sp_sum l0 cosT (32 / 8) (i + 1) = wrap64 (s + wrap64 (x * cosT ((i : Int) * 4)))) := ⟨by rw [sp_sum, hs, hx]; rfl⟩
          have HF : Aside0 (circle_Cos.f ((i : Int) * 4) = some (cosT ((i : Int) * 4))) := ⟨sp_cos (by omega) (by omega)⟩
          clear hcs hx
          rw [hs]
          clear hs
          go_wp2_with (go_at_call 35; (with_reducible refine (circle_Cos.calls _ _ _ (HG.out.drewN _) HF.out).mono ?_); rintro e w' ⟨rfl, ⟨nd, rfl⟩⟩)
          go_roundw
          case rel => exact ⟨i + 1, by omega, by go_num, by rw [HN.out], ⟨⟨_, rfl⟩⟩⟩
          case measure => simp [intOf]; omega
        · obtain rfl : i = 8 := by omega
          go_wp2
          go_ret
          exact ⟨by rw [HV.out]; rfl, ⟨⟨_, rfl⟩⟩⟩
    · clear hm hh
      go_enter Tryd.func34, Tryd.ntmps34
      go_wp2
      go_loopw [6, 26] (fun v6 v wr => ∃ (i : Nat), i ≤ 16 ∧ v = .int .i64 (i : Int) ∧ v6 = .int .i64 (sp_sum l0 cosT (32 / 16) i) ∧ Aside0 (∃ k, wr = w.drewN k)) (fun _ v _ => 16 - (intOf v).toNat)
      case atStart => exact ⟨0, by omega, rfl, rfl, ⟨⟨0, rfl⟩⟩⟩
      case round =>
        obtain ⟨i, hi, rfl, rfl, HK⟩ := hrel
        obtain ⟨k, rfl⟩ := HK.out
        by_cases hlt : i < 16
        · obtain ⟨ad, rfl, hcs⟩ := sp_ad HC.out (by omega)
          have hcell := sp_cell HC.out i hlt
          obtain ⟨x, hx⟩ : ∃ x, l0.getD i 0 = x := ⟨_, rfl⟩
          rw [hx] at hcell
          obtain ⟨s, hs⟩ : ∃ s, sp_sum l0 cosT (32 / 16) i = s := ⟨_, rfl⟩
          have HN : Aside0 (sp_sum l0 cosT (32 / 16) (i + 1) = wrap64 (s + wrap64 (x * cosT ((i : Int) * 2)))) := ⟨by rw [sp_sum, hs, hx]; rfl⟩
          have HF : Aside0 (circle_Cos.f ((i : Int) * 2) = some (cosT ((i : Int) * 2))) := ⟨sp_cos (by omega) (by omega)⟩
          clear hcs hx
          rw [hs]
          clear hs
          go_wp2_with (go_at_call 35; (with_reducible refine (circle_Cos.calls _ _ _ (HG.out.drewN _) HF.out).mono ?_); rintro e w' ⟨rfl, ⟨nd, rfl⟩⟩)
          go_roundw
          case rel => exact ⟨i + 1, by omega, by go_num, by rw [HN.out], ⟨⟨_, rfl⟩⟩⟩
          case measure => simp [intOf]; omega
        · obtain rfl : i = 16 := by omega
          go_wp2
          go_ret
          exact ⟨by rw [HV.out]; rfl, ⟨⟨_, rfl⟩⟩⟩
    · clear hm hh
      go_enter Tryd.func34, Tryd.ntmps34
      go_wp2
      go_loopw [6, 26] (fun v6 v wr => ∃ (i : Nat), i ≤ 32 ∧ v = .int .i64 (i : Int) ∧ v6 = .int .i64 (sp_sum l0 cosT (32 / 32) i) ∧ Aside0 (∃ k, wr = w.drewN k)) (fun _ v _ => 32 - (intOf v).toNat)
      case atStart => exact ⟨0, by omega, rfl, rfl, ⟨⟨0, rfl⟩⟩⟩
      case round =>
        obtain ⟨i, hi, rfl, rfl, HK⟩ := hrel
        obtain ⟨k, rfl⟩ := HK.out
        by_cases hlt : i < 32
        · obtain ⟨ad, rfl, hcs⟩ := sp_ad HC.out (by omega)
          have hcell := sp_cell HC.out i hlt
          obtain ⟨x, hx⟩ : ∃ x, l0.getD i 0 = x := ⟨_, rfl⟩
          rw [hx] at hcell
          obtain ⟨s, hs⟩ : ∃ s, sp_sum l0 cosT (32 / 32) i = s := ⟨_, rfl⟩
          have HN : Aside0 (sp_sum l0 cosT (32 / 32) (i + 1) = wrap64 (s + wrap64 (x * cosT (i : Int)))) := ⟨by rw [sp_sum, hs, hx, show ((32 / 32 : Nat) : Int) = 1 from rfl, Int.mul_one]⟩
          have HF : Aside0 (circle_Cos.f (i : Int) = some (cosT (i : Int))) := ⟨sp_cos (by omega) (by omega)⟩
          clear hcs hx
          rw [hs]
          clear hs
          go_wp2_with (go_at_call 35; (with_reducible refine (circle_Cos.calls _ _ _ (HG.out.drewN _) HF.out).mono ?_); rintro e w' ⟨rfl, ⟨nd, rfl⟩⟩)
          go_roundw
          case rel => exact ⟨i + 1, by omega, by go_num, by rw [HN.out], ⟨⟨_, rfl⟩⟩⟩
          case measure => simp [intOf]; omega
        · obtain rfl : i = 32 := by omega
          go_wp2
          go_ret
          exact ⟨by rw [HV.out]; rfl, ⟨⟨_, rfl⟩⟩⟩
  · have HV : Aside0 (sp_part l0 cosT = 0) := ⟨by unfold sp_part; rw [hl, if_neg (by rw [hm]; decide)]⟩
    have hcase : h = 0 ∨ 0 < h ∧ h ≤ 32 ∧ (Go.bits .and .i64 (h : Int) ((h : Int) - 1) != 0) = true ∨ 32 < h := by
      by_cases h1 : h ≤ 32
      · rcases sp_mask ⟨h, by omega⟩ with h2 | h2 | h2
        · exact .inl h2
        · rw [hm] at h2; cases h2
        · by_cases h3 : h = 0
          · exact .inl h3
          · exact .inr (.inl ⟨by omega, h1, h2⟩)
      · exact .inr (.inr (by omega))
    clear hl hm
    rcases hcase with rfl | ⟨h0, h1, h2⟩ | h1
    · go_enter Tryd.func34, Tryd.ntmps34
      go_wp2
      go_ret
      exact ⟨by rw [HV.out]; rfl, ⟨⟨0, rfl⟩⟩⟩
    · have hd : ((h : Int) == 0) = false := by simp; omega
      go_enter Tryd.func34, Tryd.ntmps34
      go_wp2
      go_ret
      exact ⟨by rw [HV.out]; rfl, ⟨⟨0, rfl⟩⟩⟩
    · have hd : ((h : Int) == 0) = false := by simp; omega
      go_enter Tryd.func34, Tryd.ntmps34
      go_wp2
      all_goals
        go_ret
        exact ⟨by rw [HV.out]; rfl, ⟨⟨0, rfl⟩⟩⟩
def spin_Real.f (l0 : List Int) : Option Int := if decide (l0.length ≤ 1000000) then some (sp_part l0 cosT) else none
theorem real_go (A0 : Option Addr) (h c0 : Nat) (l0 : List Int) (w : World) (hG : GlobA w) (hl : l0.length = h) (hr0 : Kd.C (Kd.int .i64) w A0 h l0) (hh : h ≤ 1000000) :
    Calls Tryd.prog 16 #[.slice A0 h c0] w fun e w' => e = .returned (.int .i64 (sp_part l0 cosT)) ∧ Drawn0 w w' := by
  have HG := Aside0.mk hG
  have HC := Aside0.mk hr0
  have HL := Aside0.mk hl
  clear hG hr0 hl
  go_enter Tryd.func16, Tryd.ntmps16
  go_wp2_with (go_at_call 34; (with_reducible refine (sum_cos A0 h c0 l0 _ HG.out HL.out HC.out hh).mono ?_); rintro e w' ⟨rfl, ⟨nd, rfl⟩⟩)
  go_ret
  exact ⟨rfl, ⟨⟨_, rfl⟩⟩⟩
theorem spin_Real.calls (A0 : Option Addr) (c0 : Nat) (l0 : List Int) (r : Int) (w : World) (hG : GlobA w) (hr0 : Kd.C (Kd.int .i64) w A0 l0.length l0) (hc0 : l0.length ≤ c0) (h : spin_Real.f l0 = some r) :
    Calls Tryd.prog 16 #[.slice A0 l0.length c0] w fun e w' => e = .returned (.int .i64 r) ∧ Drawn0 w w' := by
  unfold spin_Real.f at h
  split at h
  case isFalse => cases h
  rename_i hz
  obtain rfl := Option.some.inj h
  exact real_go A0 _ c0 l0 w hG rfl hr0 (of_decide_eq_true hz)

/-! ### circle_Sin: function 36 -/
def circle_Sin.f (a0 : Int) : Option (Int) := (circle_Rest.f a0).bind fun t105 => ((circle_Cos.f (wrap64 (t105 - 16))).bind fun t106 => (some t106))
set_option maxHeartbeats 8000000 in
set_option maxRecDepth 100000 in
theorem circle_Sin.calls (a0 : Int) (r : Int) (w : World) (hG : GlobA w) (h : circle_Sin.f a0 = some r) :
    Calls Tryd.prog 36 #[.int .i64 a0] w fun e w' => e = .returned (.int .i64 r) ∧ Drawn0 w w' := by
  have HG := Aside0.mk hG
  clear hG
  have H : ((circle_Rest.f a0).bind fun t105 => ((circle_Cos.f (wrap64 (t105 - 16))).bind fun t106 => (some t106))) = some r := h
  clear h
  replace H := Option.bind_eq_some_iff.mp H
  obtain ⟨t105, A20, H⟩ := H
  replace H : ((circle_Cos.f (wrap64 (t105 - 16))).bind fun t106 => (some t106)) = some r := H
  have A2 := Aside0.mk A20
  clear A20
  replace H := Option.bind_eq_some_iff.mp H
  obtain ⟨t106, A30, H⟩ := H
  replace H : (some t106) = some r := H
  have A3 := Aside0.mk A30
  clear A30
  obtain rfl := Option.some.inj H
  go_enter Tryd.func36, Tryd.ntmps36
  go_wp2_with (first | ((with_reducible refine gate_callee (f := 54) rfl ?_); refine goesL_ (some 4) rfl rfl Tryd.func54 (by kernel_rfl) rfl #[.int .i64 a0] rfl (by (try simp only [List.map_toArray, List.map_cons, List.map_nil]); first | done | rfl | (simp only [List.length_drop, List.length_take]; rfl)) ?_; (with_reducible refine (circle_Rest.calls a0 t105 _ A2.out).mono ?_); rintro e w' ⟨rfl, ⟨nd, rfl⟩⟩; refine ⟨_, rfl, ?_⟩) | ((with_reducible refine gate_callee (f := 35) rfl ?_); refine goesL_ (some 6) rfl rfl Tryd.func35 (by kernel_rfl) rfl #[.int .i64 (wrap64 (t105 - 16))] rfl (by (try simp only [List.map_toArray, List.map_cons, List.map_nil]); first | done | rfl | (simp only [List.length_drop, List.length_take]; rfl)) ?_; (with_reducible refine (circle_Cos.calls (wrap64 (t105 - 16)) t106 _ ?side1 A3.out).mono ?_); (case side1 => first | exact HG.out | exact GlobA.drewN HG.out _); rintro e w' ⟨rfl, ⟨nd, rfl⟩⟩; refine ⟨_, rfl, ?_⟩))
  go_ret
  exact ⟨by first | rfl | (simp; done) | (simp [*]; done), by repeat (first | exact Drawn0.refl _ | apply Drawn0.step)⟩

/-! ### spin_Imag: function 17 -/
theorem sp_sin {x : Int} (h0 : -9223372036854775808 ≤ x) (h1 : x ≤ 9223372036854775807) : circle_Sin.f x = some (sinT x) := by
  unfold circle_Sin.f
  have m0 := Int.emod_nonneg x (show (64 : Int) ≠ 0 by decide)
  have m1 := Int.emod_lt_of_pos x (show (0 : Int) < 64 by decide)
  rw [rest_some (by simp [ci64b, h0, h1]), Option.bind_some, show wrap64 (x % 64 - 16) = x % 64 - 16 by unfold wrap64; omega, sp_cos (by omega) (by omega)]
  rfl
set_option maxHeartbeats 16000000 in
theorem sum_sin (A0 : Option Addr) (h c0 : Nat) (l0 : List Int) (w : World) (hG : GlobA w) (hl : l0.length = h) (hr0 : Kd.C (Kd.int .i64) w A0 h l0) (hh : h ≤ 1000000) :
    Calls Tryd.prog 34 #[.slice A0 h c0, .func (.func 36) #[] #[]] w fun e w' => e = .returned (.int .i64 (sp_part l0 sinT)) ∧ Drawn0 w w' := by
  have HG := Aside0.mk hG
  have HC := Aside0.mk hr0
  clear hG hr0
  rcases Bool.eq_false_or_eq_true (sp_may h) with hm | hm
  · have HV : Aside0 (sp_part l0 sinT = sp_sum l0 sinT (32 / h) h) := ⟨by unfold sp_part; rw [hl, if_pos hm]⟩
    have HL := Aside0.mk hl
    clear hl
    rcases sp_may_cases hm with rfl | rfl | rfl | rfl | rfl | rfl
    · clear hm hh
      go_enter Tryd.func34, Tryd.ntmps34
      go_wp2
      go_loopw [6, 26] (fun v6 v wr => ∃ (i : Nat), i ≤ 1 ∧ v = .int .i64 (i : Int) ∧ v6 = .int .i64 (sp_sum l0 sinT (32 / 1) i) ∧ Aside0 (∃ k, wr = w.drewN k)) (fun _ v _ => 1 - (intOf v).toNat)
      case atStart => exact ⟨0, by omega, rfl, rfl, ⟨⟨0, rfl⟩⟩⟩
      case round =>
        obtain ⟨i, hi, rfl, rfl, HK⟩ := hrel
        obtain ⟨k, rfl⟩ := HK.out
        by_cases hlt : i < 1
        · obtain ⟨ad, rfl, hcs⟩ := sp_ad HC.out (by omega)
          have hcell := sp_cell HC.out i hlt
          obtain ⟨x, hx⟩ : ∃ x, l0.getD i 0 = x := ⟨_, rfl⟩
          rw [hx] at hcell
          obtain ⟨s, hs⟩ : ∃ s, sp_sum l0 sinT (32 / 1) i = s := ⟨_, rfl⟩
          have HN : Aside0 (sp_sum l0 sinT (32 / 1) (i + 1) = wrap64 (s + wrap64 (x * sinT ((i : Int) * 32)))) := ⟨by rw [sp_sum, hs, hx]; rfl⟩
          have HF : Aside0 (circle_Sin.f ((i : Int) * 32) = some (sinT ((i : Int) * 32))) := ⟨sp_sin (by omega) (by omega)⟩
          clear hcs hx
          rw [hs]
          clear hs
          go_wp2_with (go_at_call 36; (with_reducible refine (circle_Sin.calls _ _ _ (HG.out.drewN _) HF.out).mono ?_); rintro e w' ⟨rfl, ⟨nd, rfl⟩⟩)
          go_roundw
          case rel => exact ⟨i + 1, by omega, by go_num, by rw [HN.out], ⟨⟨_, rfl⟩⟩⟩
          case measure => simp [intOf]; omega
        · obtain rfl : i = 1 := by omega
          go_wp2
          go_ret
          exact ⟨by rw [HV.out]; rfl, ⟨⟨_, rfl⟩⟩⟩
    · clear hm hh
      go_enter Tryd.func34, Tryd.ntmps34
      go_wp2
      go_loopw [6, 26] (fun v6 v wr => ∃ (i : Nat), i ≤ 2 ∧ v = .int .i64 (i : Int) ∧ v6 = .int .i64 (sp_sum l0 sinT (32 / 2) i) ∧ Aside0 (∃ k, wr = w.drewN k)) (fun _ v _ => 2 - (intOf v).toNat)
      case atStart => exact ⟨0, by omega, rfl, rfl, ⟨⟨0, rfl⟩⟩⟩
      case round =>
        obtain ⟨i, hi, rfl, rfl, HK⟩ := hrel
        obtain ⟨k, rfl⟩ := HK.out
        by_cases hlt : i < 2
        · obtain ⟨ad, rfl, hcs⟩ := sp_ad HC.out (by omega)
          have hcell := sp_cell HC.out i hlt
          obtain ⟨x, hx⟩ : ∃ x, l0.getD i 0 = x := ⟨_, rfl⟩
          rw [hx] at hcell
          obtain ⟨s, hs⟩ : ∃ s, sp_sum l0 sinT (32 / 2) i = s := ⟨_, rfl⟩
          have HN : Aside0 (sp_sum l0 sinT (32 / 2) (i + 1) = wrap64 (s + wrap64 (x * sinT ((i : Int) * 16)))) := ⟨by rw [sp_sum, hs, hx]; rfl⟩
          have HF : Aside0 (circle_Sin.f ((i : Int) * 16) = some (sinT ((i : Int) * 16))) := ⟨sp_sin (by omega) (by omega)⟩
          clear hcs hx
          rw [hs]
          clear hs
          go_wp2_with (go_at_call 36; (with_reducible refine (circle_Sin.calls _ _ _ (HG.out.drewN _) HF.out).mono ?_); rintro e w' ⟨rfl, ⟨nd, rfl⟩⟩)
          go_roundw
          case rel => exact ⟨i + 1, by omega, by go_num, by rw [HN.out], ⟨⟨_, rfl⟩⟩⟩
          case measure => simp [intOf]; omega
        · obtain rfl : i = 2 := by omega
          go_wp2
          go_ret
          exact ⟨by rw [HV.out]; rfl, ⟨⟨_, rfl⟩⟩⟩
    · clear hm hh
      go_enter Tryd.func34, Tryd.ntmps34
      go_wp2
      go_loopw [6, 26] (fun v6 v wr => ∃ (i : Nat), i ≤ 4 ∧ v = .int .i64 (i : Int) ∧ v6 = .int .i64 (sp_sum l0 sinT (32 / 4) i) ∧ Aside0 (∃ k, wr = w.drewN k)) (fun _ v _ => 4 - (intOf v).toNat)
      case atStart => exact ⟨0, by omega, rfl, rfl, ⟨⟨0, rfl⟩⟩⟩
      case round =>
        obtain ⟨i, hi, rfl, rfl, HK⟩ := hrel
        obtain ⟨k, rfl⟩ := HK.out
        by_cases hlt : i < 4
        · obtain ⟨ad, rfl, hcs⟩ := sp_ad HC.out (by omega)
          have hcell := sp_cell HC.out i hlt
          obtain ⟨x, hx⟩ : ∃ x, l0.getD i 0 = x := ⟨_, rfl⟩
          rw [hx] at hcell
          obtain ⟨s, hs⟩ : ∃ s, sp_sum l0 sinT (32 / 4) i = s := ⟨_, rfl⟩
          have HN : Aside0 (sp_sum l0 sinT (32 / 4) (i + 1) = wrap64 (s + wrap64 (x * sinT ((i : Int) * 8)))) := ⟨by rw [sp_sum, hs, hx]; rfl⟩
          have HF : Aside0 (circle_Sin.f ((i : Int) * 8) = some (sinT ((i : Int) * 8))) := ⟨sp_sin (by omega) (by omega)⟩
          clear hcs hx
          rw [hs]
          clear hs
          go_wp2_with (go_at_call 36; (with_reducible refine (circle_Sin.calls _ _ _ (HG.out.drewN _) HF.out).mono ?_); rintro e w' ⟨rfl, ⟨nd, rfl⟩⟩)
          go_roundw
          case rel => exact ⟨i + 1, by omega, by go_num, by rw [HN.out], ⟨⟨_, rfl⟩⟩⟩
          case measure => simp [intOf]; omega
        · obtain rfl : i = 4 := by omega
          go_wp2
          go_ret
          exact ⟨by rw [HV.out]; rfl, ⟨⟨_, rfl⟩⟩⟩
    · clear hm hh
      go_enter Tryd.func34, Tryd.ntmps34
      go_wp2
      go_loopw [6, 26] (fun v6 v wr => ∃ (i : Nat), i ≤ 8 ∧ v = .int .i64 (i : Int) ∧ v6 = .int .i64 (sp_sum l0 sinT (32 / 8) i) ∧ Aside0 (∃ k, wr = w.drewN k)) (fun _ v _ => 8 - (intOf v).toNat)
      case atStart => exact ⟨0, by omega, rfl, rfl, ⟨⟨0, rfl⟩⟩⟩
      case round =>
        obtain ⟨i, hi, rfl, rfl, HK⟩ := hrel
        obtain ⟨k, rfl⟩ := HK.out
        by_cases hlt : i < 8
        · obtain ⟨ad, rfl, hcs⟩ := sp_ad HC.out (by omega)
          have hcell := sp_cell HC.out i hlt
          obtain ⟨x, hx⟩ : ∃ x, l0.getD i 0 = x := ⟨_, rfl⟩
          rw [hx] at hcell
          obtain ⟨s, hs⟩ : ∃ s, sp_sum l0 sinT (32 / 8) i = s := ⟨_, rfl⟩
          have HN : Aside0 (sp_sum l0 sinT (32 / 8) (i + 1) = wrap64 (s + wrap64 (x * sinT ((i : Int) * 4)))) := ⟨by rw [sp_sum, hs, hx]; rfl⟩
          have HF : Aside0 (circle_Sin.f ((i : Int) * 4) = some (sinT ((i : Int) * 4))) := ⟨sp_sin (by omega) (by omega)⟩
          clear hcs hx
          rw [hs]
          clear hs
          go_wp2_with (go_at_call 36; (with_reducible refine (circle_Sin.calls _ _ _ (HG.out.drewN _) HF.out).mono ?_); rintro e w' ⟨rfl, ⟨nd, rfl⟩⟩)
          go_roundw
          case rel => exact ⟨i + 1, by omega, by go_num, by rw [HN.out], ⟨⟨_, rfl⟩⟩⟩
          case measure => simp [intOf]; omega
        · obtain rfl : i = 8 := by omega
          go_wp2
          go_ret
          exact ⟨by rw [HV.out]; rfl, ⟨⟨_, rfl⟩⟩⟩
    · clear hm hh
      go_enter Tryd.func34, Tryd.ntmps34
      go_wp2
      go_loopw [6, 26] (fun v6 v wr => ∃ (i : Nat), i ≤ 16 ∧ v = .int .i64 (i : Int) ∧ v6 = .int .i64 (sp_sum l0 sinT (32 / 16) i) ∧ Aside0 (∃ k, wr = w.drewN k)) (fun _ v _ => 16 - (intOf v).toNat)
      case atStart => exact ⟨0, by omega, rfl, rfl, ⟨⟨0, rfl⟩⟩⟩
      case round =>
        obtain ⟨i, hi, rfl, rfl, HK⟩ := hrel
        obtain ⟨k, rfl⟩ := HK.out
        by_cases hlt : i < 16
        · obtain ⟨ad, rfl, hcs⟩ := sp_ad HC.out (by omega)
          have hcell := sp_cell HC.out i hlt
          obtain ⟨x, hx⟩ : ∃ x, l0.getD i 0 = x := ⟨_, rfl⟩
          rw [hx] at hcell
          obtain ⟨s, hs⟩ : ∃ s, sp_sum l0 sinT (32 / 16) i = s := ⟨_, rfl⟩
          have HN : Aside0 (sp_sum l0 sinT (32 / 16) (i + 1) = wrap64 (s + wrap64 (x * sinT ((i : Int) * 2)))) := ⟨by rw [sp_sum, hs, hx]; rfl⟩
          have HF : Aside0 (circle_Sin.f ((i : Int) * 2) = some (sinT ((i : Int) * 2))) := ⟨sp_sin (by omega) (by omega)⟩
          clear hcs hx
          rw [hs]
          clear hs
          go_wp2_with (go_at_call 36; (with_reducible refine (circle_Sin.calls _ _ _ (HG.out.drewN _) HF.out).mono ?_); rintro e w' ⟨rfl, ⟨nd, rfl⟩⟩)
          go_roundw
          case rel => exact ⟨i + 1, by omega, by go_num, by rw [HN.out], ⟨⟨_, rfl⟩⟩⟩
          case measure => simp [intOf]; omega
        · obtain rfl : i = 16 := by omega
          go_wp2
          go_ret
          exact ⟨by rw [HV.out]; rfl, ⟨⟨_, rfl⟩⟩⟩
    · clear hm hh
      go_enter Tryd.func34, Tryd.ntmps34
      go_wp2
      go_loopw [6, 26] (fun v6 v wr => ∃ (i : Nat), i ≤ 32 ∧ v = .int .i64 (i : Int) ∧ v6 = .int .i64 (sp_sum l0 sinT (32 / 32) i) ∧ Aside0 (∃ k, wr = w.drewN k)) (fun _ v _ => 32 - (intOf v).toNat)
      case atStart => exact ⟨0, by omega, rfl, rfl, ⟨⟨0, rfl⟩⟩⟩
      case round =>
        obtain ⟨i, hi, rfl, rfl, HK⟩ := hrel
        obtain ⟨k, rfl⟩ := HK.out
        by_cases hlt : i < 32
        · obtain ⟨ad, rfl, hcs⟩ := sp_ad HC.out (by omega)
          have hcell := sp_cell HC.out i hlt
          obtain ⟨x, hx⟩ : ∃ x, l0.getD i 0 = x := ⟨_, rfl⟩
          rw [hx] at hcell
          obtain ⟨s, hs⟩ : ∃ s, sp_sum l0 sinT (32 / 32) i = s := ⟨_, rfl⟩
          have HN : Aside0 (sp_sum l0 sinT (32 / 32) (i + 1) = wrap64 (s + wrap64 (x * sinT (i : Int)))) := ⟨by rw [sp_sum, hs, hx, show ((32 / 32 : Nat) : Int) = 1 from rfl, Int.mul_one]⟩
          have HF : Aside0 (circle_Sin.f (i : Int) = some (sinT (i : Int))) := ⟨sp_sin (by omega) (by omega)⟩
          clear hcs hx
          rw [hs]
          clear hs
          go_wp2_with (go_at_call 36; (with_reducible refine (circle_Sin.calls _ _ _ (HG.out.drewN _) HF.out).mono ?_); rintro e w' ⟨rfl, ⟨nd, rfl⟩⟩)
          go_roundw
          case rel => exact ⟨i + 1, by omega, by go_num, by rw [HN.out], ⟨⟨_, rfl⟩⟩⟩
          case measure => simp [intOf]; omega
        · obtain rfl : i = 32 := by omega
          go_wp2
          go_ret
          exact ⟨by rw [HV.out]; rfl, ⟨⟨_, rfl⟩⟩⟩
  · have HV : Aside0 (sp_part l0 sinT = 0) := ⟨by unfold sp_part; rw [hl, if_neg (by rw [hm]; decide)]⟩
    have hcase : h = 0 ∨ 0 < h ∧ h ≤ 32 ∧ (Go.bits .and .i64 (h : Int) ((h : Int) - 1) != 0) = true ∨ 32 < h := by
      by_cases h1 : h ≤ 32
      · rcases sp_mask ⟨h, by omega⟩ with h2 | h2 | h2
        · exact .inl h2
        · rw [hm] at h2; cases h2
        · by_cases h3 : h = 0
          · exact .inl h3
          · exact .inr (.inl ⟨by omega, h1, h2⟩)
      · exact .inr (.inr (by omega))
    clear hl hm
    rcases hcase with rfl | ⟨h0, h1, h2⟩ | h1
    · go_enter Tryd.func34, Tryd.ntmps34
      go_wp2
      go_ret
      exact ⟨by rw [HV.out]; rfl, ⟨⟨0, rfl⟩⟩⟩
    · have hd : ((h : Int) == 0) = false := by simp; omega
      go_enter Tryd.func34, Tryd.ntmps34
      go_wp2
      go_ret
      exact ⟨by rw [HV.out]; rfl, ⟨⟨0, rfl⟩⟩⟩
    · have hd : ((h : Int) == 0) = false := by simp; omega
      go_enter Tryd.func34, Tryd.ntmps34
      go_wp2
      all_goals
        go_ret
        exact ⟨by rw [HV.out]; rfl, ⟨⟨0, rfl⟩⟩⟩
def spin_Imag.f (l0 : List Int) : Option Int := if decide (l0.length ≤ 1000000) then some (wrap64 (-(sp_part l0 sinT))) else none
theorem imag_go (A0 : Option Addr) (h c0 : Nat) (l0 : List Int) (w : World) (hG : GlobA w) (hl : l0.length = h) (hr0 : Kd.C (Kd.int .i64) w A0 h l0) (hh : h ≤ 1000000) :
    Calls Tryd.prog 17 #[.slice A0 h c0] w fun e w' => e = .returned (.int .i64 (wrap64 (-(sp_part l0 sinT)))) ∧ Drawn0 w w' := by
  have HG := Aside0.mk hG
  have HC := Aside0.mk hr0
  have HL := Aside0.mk hl
  clear hG hr0 hl
  go_enter Tryd.func17, Tryd.ntmps17
  go_wp2_with (go_at_call 34; (with_reducible refine (sum_sin A0 h c0 l0 _ HG.out HL.out HC.out hh).mono ?_); rintro e w' ⟨rfl, ⟨nd, rfl⟩⟩)
  go_ret
  exact ⟨rfl, ⟨⟨_, rfl⟩⟩⟩
theorem spin_Imag.calls (A0 : Option Addr) (c0 : Nat) (l0 : List Int) (r : Int) (w : World) (hG : GlobA w) (hr0 : Kd.C (Kd.int .i64) w A0 l0.length l0) (hc0 : l0.length ≤ c0) (h : spin_Imag.f l0 = some r) :
    Calls Tryd.prog 17 #[.slice A0 l0.length c0] w fun e w' => e = .returned (.int .i64 r) ∧ Drawn0 w w' := by
  unfold spin_Imag.f at h
  split at h
  case isFalse => cases h
  rename_i hz
  obtain rfl := Option.some.inj h
  exact imag_go A0 _ c0 l0 w hG rfl hr0 (of_decide_eq_true hz)

/-! ### bits_Len64: function 59 -/
def bits_Len64.f (a0 : Int) : Option (Int) := if 0 ≤ a0 then (if a0 < 18446744073709551616 then (some ((Lib.bitLen a0.toNat : Nat) : Int)) else (none)) else (none)
theorem bits_Len64.calls (a0 : Int) (r : Int) (w : World) (h : bits_Len64.f a0 = some r) :
    Calls Tryd.prog 59 #[.int .u64 a0] w fun e w' => e = .returned (.int .i64 r) ∧ Drawn0 w w' := by
  unfold bits_Len64.f at h
  split at h
  · rename_i h0
    split at h
    · rename_i h1
      obtain rfl := Option.some.inj h
      refine (len64_any a0 w h0 (by omega)).mono ?_
      rintro e w' ⟨rfl, rfl⟩
      exact ⟨rfl, Drawn0.refl _⟩
    · cases h
  · cases h

/-! ### logs_Bits: function 50 -/
def logs_Bits.f (a0 : Int) : Option (Int) := (bits_Len64.f a0).bind fun t107 => (some t107)
set_option maxHeartbeats 8000000 in
set_option maxRecDepth 100000 in
theorem logs_Bits.calls (a0 : Int) (r : Int) (w : World) (h : logs_Bits.f a0 = some r) :
    Calls Tryd.prog 50 #[.int .u64 a0] w fun e w' => e = .returned (.int .i64 r) ∧ Drawn0 w w' := by
  have H : ((bits_Len64.f a0).bind fun t107 => (some t107)) = some r := h
  clear h
  replace H := Option.bind_eq_some_iff.mp H
  obtain ⟨t107, A20, H⟩ := H
  replace H : (some t107) = some r := H
  have A2 := Aside0.mk A20
  clear A20
  obtain rfl := Option.some.inj H
  go_enter Tryd.func50, Tryd.ntmps50
  go_wp2_with (first | ((with_reducible refine gate_callee (f := 59) rfl ?_); refine goesL_ (some 4) rfl rfl Tryd.func59 (by kernel_rfl) rfl #[.int .u64 a0] rfl (by (try simp only [List.map_toArray, List.map_cons, List.map_nil]); first | done | rfl | (simp only [List.length_drop, List.length_take]; rfl)) ?_; (with_reducible refine (bits_Len64.calls a0 t107 _ A2.out).mono ?_); rintro e w' ⟨rfl, ⟨nd, rfl⟩⟩; refine ⟨_, rfl, ?_⟩))
  go_ret
  exact ⟨by first | rfl | (simp; done) | (simp [*]; done), by repeat (first | exact Drawn0.refl _ | apply Drawn0.step)⟩

/-! ### logs_Norm: function 30 -/
def logs_Norm.l0 : Nat → Int → List Int → Int → Int → Option (Int)
  | 0, _, _, _, _ => none
  | k + 1, x3, x6, x7, x8 => if x8 < x7 then (if 0 ≤ x8 then (if x8 < (x6.length : Int) then (if (rd x6 x8) < 0 then (logs_Norm.l0 k (Go.bits .or .u64 x3 (IntKind.u64.wrap (wrap64 (-(rd x6 x8))))) x6 x7 (wrap64 (x8 + 1))) else (logs_Norm.l0 k (Go.bits .or .u64 x3 (IntKind.u64.wrap (rd x6 x8))) x6 x7 (wrap64 (x8 + 1)))) else (none)) else (none)) else ((logs_Bits.f x3).bind fun t109 => (some t109))
def logs_Norm.f (k : Nat) (l0 : List Int) : Option (Int) := logs_Norm.l0 k 0 l0 (l0.length : Int) 0
theorem logs_Norm.mono_l : ∀ k, (∀ y0 y1 y2 y3, LeO (logs_Norm.l0 k y0 y1 y2 y3) (logs_Norm.l0 (k + 1) y0 y1 y2 y3))
  | 0 => fun _ _ _ _ r h => by simp [logs_Norm.l0] at h
  | k + 1 => by
    have ih0 := logs_Norm.mono_l k
    · intro y0 y1 y2 y3
      unfold logs_Norm.l0
      repeat' first
      | (with_reducible exact ih0 _ _ _ _)
      | (with_reducible exact LeO.refl _)
      | (with_reducible exact LeO.none _)
      | (with_reducible refine LeO.ite ?_ ?_)
      | (with_reducible refine LeO.bind ?_ (fun _ => ?_))
      | exact ih0 _ _ _ _
      | exact LeO.none _
      | refine LeO.ite ?_ ?_
      | refine LeO.bind ?_ (fun _ => ?_)
theorem logs_Norm.mono : ∀ a0 k, LeO (logs_Norm.f k a0) (logs_Norm.f (k + 1) a0) := by
  intro a0 k
  have ih0 := logs_Norm.mono_l k
  unfold logs_Norm.f
  repeat' first
      | (with_reducible exact ih0 _ _ _ _)
      | (with_reducible exact LeO.refl _)
      | (with_reducible exact LeO.none _)
      | (with_reducible refine LeO.ite ?_ ?_)
      | (with_reducible refine LeO.bind ?_ (fun _ => ?_))
      | exact ih0 _ _ _ _
      | exact LeO.none _
      | refine LeO.ite ?_ ?_
      | refine LeO.bind ?_ (fun _ => ?_)
set_option maxHeartbeats 8000000 in
set_option maxRecDepth 100000 in
theorem logs_Norm.calls (k : Nat) (A0 : Option Addr) (c0 : Nat) (l0 : List Int) (r : Int) (w : World) (hr0 : Kd.C (Kd.int .i64) w A0 l0.length l0) (hc0 : l0.length ≤ c0) (h : logs_Norm.f k l0 = some r) :
    Calls Tryd.prog 30 #[.slice A0 l0.length c0] w fun e w' => e = .returned (.int .i64 r) ∧ Drawn0 w w' := by
  have HR0 := Aside0.mk hr0
  have HC0 := Aside0.mk hc0
  clear hr0 hc0
  have H : (logs_Norm.l0 k 0 l0 (l0.length : Int) 0) = some r := h
  clear h
  have H' := Aside0.mk H
  clear H
  go_enter Tryd.func30, Tryd.ntmps30
  go_wp2
  go_loopg [3, 8] k (fun kq v3 v8 w' => ∃ (x3_1 : Int) (x8_1 : Int), v3 = .int .u64 x3_1 ∧ v8 = .int .i64 x8_1 ∧ Aside0 (logs_Norm.l0 kq x3_1 l0 (l0.length : Int) x8_1 = some r) ∧ Aside0 (kq ≤ k) ∧ Drawn0 w w')
  case atStart => exact ⟨(0), (0), (by first | rfl | (simp; done) | (simp [*]; done)), (by first | rfl | (simp; done) | (simp [*]; done)), H', ⟨Nat.le_refl _⟩, by repeat (first | exact Drawn0.refl _ | apply Drawn0.step)⟩
  case round =>
    clear H'
    obtain ⟨x3_1, x8_1, rfl, rfl, HA, HK1, ⟨m1, rfl⟩⟩ := hrel
    cases gk with
    | zero => exact absurd HA.out (by simp [logs_Norm.l0])
    | succ k1 =>
      have H := HA.out
      clear HA
      simp only [logs_Norm.l0] at H
      by_cases c2 : x8_1 < (l0.length : Int)
      · rw [if_pos c2] at H
        have c2b0 : decide (x8_1 < (l0.length : Int)) = true := decide_eq_true c2
        clear c2
        by_cases c3 : 0 ≤ x8_1
        · rw [if_pos c3] at H
          have c3b0 : decide (0 ≤ x8_1) = true := decide_eq_true c3
          clear c3
          by_cases c4 : x8_1 < (l0.length : Int)
          · rw [if_pos c4] at H
            have c4b0 : decide (x8_1 < (l0.length : Int)) = true := decide_eq_true c4
            clear c4
            by_cases c5 : (rd l0 x8_1) < 0
            · rw [if_pos c5] at H
              have c5b0 : decide ((rd l0 x8_1) < 0) = true := decide_eq_true c5
              clear c5
              have H' := Aside0.mk H
              clear H
              have p108 : 0 ≤ (x8_1 : Int) := of_decide_eq_true (by first | (with_reducible assumption) | assumption)
              have q108 : x8_1 < (l0.length : Int) := of_decide_eq_true (by first | (with_reducible assumption) | assumption)
              obtain ⟨ad108, e108, hx108_0⟩ := Kd.at_int HR0.out x8_1 p108 q108
              cases e108
              replace p108 := eq_true p108
              replace q108 := eq_true q108
              go_wp2
              go_roundg k1
              case measure => have := HK1.out; omega
              case rel => exact ⟨(Go.bits .or .u64 x3_1 (IntKind.u64.wrap (wrap64 (-(rd l0 x8_1))))), (wrap64 (x8_1 + 1)), (by first | rfl | (simp; done) | (simp [*]; done)), (by first | rfl | (simp; done) | (simp [*]; done)), H', ⟨by have := HK1.out; omega⟩, by repeat (first | exact Drawn0.refl _ | apply Drawn0.step)⟩
            · rw [if_neg c5] at H
              have c5b0 : decide ((rd l0 x8_1) < 0) = false := decide_eq_false c5
              clear c5
              have H' := Aside0.mk H
              clear H
              have p108 : 0 ≤ (x8_1 : Int) := of_decide_eq_true (by first | (with_reducible assumption) | assumption)
              have q108 : x8_1 < (l0.length : Int) := of_decide_eq_true (by first | (with_reducible assumption) | assumption)
              obtain ⟨ad108, e108, hx108_0⟩ := Kd.at_int HR0.out x8_1 p108 q108
              cases e108
              replace p108 := eq_true p108
              replace q108 := eq_true q108
              go_wp2
              go_roundg k1
              case measure => have := HK1.out; omega
              case rel => exact ⟨(Go.bits .or .u64 x3_1 (IntKind.u64.wrap (rd l0 x8_1))), (wrap64 (x8_1 + 1)), (by first | rfl | (simp; done) | (simp [*]; done)), (by first | rfl | (simp; done) | (simp [*]; done)), H', ⟨by have := HK1.out; omega⟩, by repeat (first | exact Drawn0.refl _ | apply Drawn0.step)⟩
          · rw [if_neg c4] at H
            exact absurd H (by simp)
        · rw [if_neg c3] at H
          exact absurd H (by simp)
      · rw [if_neg c2] at H
        have c2b0 : decide (x8_1 < (l0.length : Int)) = false := decide_eq_false c2
        clear c2
        replace H := Option.bind_eq_some_iff.mp H
        obtain ⟨t109, A60, H⟩ := H
        replace H : (some t109) = some r := H
        have A6 := Aside0.mk A60
        clear A60
        obtain rfl := Option.some.inj H
        go_wp2_with (first | ((with_reducible refine gate_callee (f := 50) rfl ?_); refine goesL_ (some 25) rfl rfl Tryd.func50 (by kernel_rfl) rfl #[.int .u64 x3_1] rfl (by (try simp only [List.map_toArray, List.map_cons, List.map_nil]); first | done | rfl | (simp only [List.length_drop, List.length_take]; rfl)) ?_; (with_reducible refine (logs_Bits.calls x3_1 t109 _ A6.out).mono ?_); rintro e w' ⟨rfl, ⟨nd, rfl⟩⟩; refine ⟨_, rfl, ?_⟩))
        go_ret
        exact ⟨by first | rfl | (simp; done) | (simp [*]; done), by repeat (first | exact Drawn0.refl _ | apply Drawn0.step)⟩

-- NOT PRINTED: function 64 (round_Div_1)

/-! ### round_Div: function 58 -/
def i64b (x : Int) : Bool := decide (-9223372036854775808 ≤ x) && decide (x ≤ 9223372036854775807)
theorem i64b_of {x : Int} (h : i64b x = true) : -9223372036854775808 ≤ x ∧ x ≤ 9223372036854775807 := by simpa [i64b] using h
theorem i64b_mk {x : Int} (h0 : -9223372036854775808 ≤ x) (h1 : x ≤ 9223372036854775807) : i64b x = true := by simp [i64b, h0, h1]
theorem div_low {x n : Int} (hn : 1 ≤ n) (hx : -9223372036854775808 ≤ x) : -9223372036854775808 ≤ x / n := by
  refine (Int.le_ediv_iff_mul_le (by omega)).2 ?_
  omega
theorem div_high {x n : Int} (hn : 1 ≤ n) (hx : x ≤ 9223372036854775807) : x / n ≤ 9223372036854775807 := by
  refine Int.le_trans (Int.ediv_le_ediv (by omega) hx) ?_
  exact Int.ediv_le_self _ (by decide)
theorem parts_some {x n : Int} (hx : i64b x = true) (hn : i64b n = true) (h1 : 1 ≤ n) : round_Parts.f x n = some (x / n, x % n) := by
  have hx := i64b_of hx
  have hn := i64b_of hn
  have hl := div_low h1 hx.1
  have hh := div_high h1 hx.2
  have m0 := Int.emod_nonneg x (show n ≠ 0 by omega)
  have m1 := Int.emod_lt_of_pos x (show 0 < n by omega)
  have e1 := Int.tmod_eq_emod (a := x) (b := n)
  have e2 := Int.tdiv_eq_ediv (a := x) (b := n)
  have s1 : n.sign = 1 := Int.sign_eq_one_of_pos (by omega)
  have s2 : (n.natAbs : Int) = n := by omega
  rw [s1] at e2
  unfold round_Parts.f
  rw [if_neg (by omega), if_neg (by omega)]
  by_cases h : 0 ≤ x ∨ n ∣ x
  · rw [if_pos h] at e1 e2
    rw [if_neg (by omega), e1, e2, Int.natCast_zero]
    rw [show wrap64 (x / n + 0) = x / n by unfold wrap64; omega, Int.sub_zero]
  · rw [if_neg h] at e1 e2
    rw [s2] at e1
    have hx0 : x / n < 0 := by
      rcases Int.lt_or_le (x / n) 0 with h' | h'
      · exact h'
      · have := Int.mul_ediv_add_emod x n
        have := Int.mul_nonneg (show 0 ≤ n by omega) h'
        omega
    rw [if_pos (by omega), e1, e2]
    rw [show wrap64 (x / n + 1) = x / n + 1 by unfold wrap64; omega, show wrap64 (x / n + 1 - 1) = x / n by unfold wrap64; omega, show wrap64 (x % n - n + n) = x % n by unfold wrap64; omega]
theorem parts_none {x n : Int} (h1 : n < 1) : round_Parts.f x n = some (0, 0) := by
  unfold round_Parts.f
  rw [if_pos h1]
/-- Division that rounds. -/
def divR (x n : Int) : Int := if n < 1 then 0 else if x % n ≥ n - x % n then x / n + 1 else x / n
def round_Div.f (a0 : Int) (a1 : Int) : Option (Int) := if i64b a0 = true then (if i64b a1 = true then (some (divR a0 a1)) else (none)) else (none)
set_option maxHeartbeats 8000000 in
theorem round_Div.calls (a0 : Int) (a1 : Int) (r : Int) (w : World) (h : round_Div.f a0 a1 = some r) :
    Calls Tryd.prog 58 #[.int .i64 a0, .int .i64 a1] w fun e w' => e = .returned (.int .i64 r) ∧ Below w.heap.size w w' := by
  have hx : i64b a0 = true := by
    unfold round_Div.f at h
    split at h
    · assumption
    · cases h
  have hn : i64b a1 = true := by
    unfold round_Div.f at h
    rw [if_pos hx] at h
    split at h
    · assumption
    · cases h
  have HR : Aside0 (divR a0 a1 = r) := by
    unfold round_Div.f at h
    rw [if_pos hx, if_pos hn] at h
    exact ⟨Option.some.inj h⟩
  clear h
  have hmf : ∀ (fn : Fn) (first cap : Array Value) (w : World), (Instr.makeFunc fn first cap).run Tryd.prog w = .ok (.func fn first cap) w := fun _ _ _ _ => rfl
  by_cases h1 : a1 < 1
  · have HP := Aside0.mk (parts_none (x := a0) h1)
    have hdec : decide (0 < a1) = false := decide_eq_false (by omega)
    have HR2 : Aside0 (r = 0) := ⟨by rw [← HR.out, divR, if_pos h1]⟩
    clear hx hn
    go_enter Tryd.func58, Tryd.ntmps58
    go_wp2_with (first | (go_at_call 32; refine (round_Parts.calls _ _ _ _ _ HP.out).mono ?_; rintro e w' ⟨rfl, ⟨nd, rfl⟩⟩) | go_in)
    all_goals
      go_ret
      exact ⟨by rw [HR2.out]; rfl, by repeat (first | exact Below.refl _ _ | apply below_alloc | apply pw_below_drewN)⟩
  · have HP := Aside0.mk (parts_some hx hn (Int.not_lt.1 h1))
    have m0 := Int.emod_nonneg a0 (show a1 ≠ 0 by omega)
    have m1 := Int.emod_lt_of_pos a0 (show 0 < a1 by omega)
    have hx' := i64b_of hx
    have hn' := i64b_of hn
    have hl := div_low (Int.not_lt.1 h1) hx'.1
    have hh := div_high (Int.not_lt.1 h1) hx'.2
    have hq : 2 ≤ a1 → a0 / a1 ≤ 4611686018427387904 := by
      intro h2
      have e1 := Int.mul_ediv_add_emod a0 a1
      have e2 : 2 * (a0 / a1) ≤ a1 * (a0 / a1) ∨ a0 / a1 < 0 := by
        rcases Int.lt_or_le (a0 / a1) 0 with h' | h'
        · exact .inr h'
        · exact .inl (Int.mul_le_mul_of_nonneg_right h2 h')
      omega
    have HE : Aside0 (r = if a0 % a1 ≥ a1 - a0 % a1 then a0 / a1 + 1 else a0 / a1) := ⟨by rw [← HR.out, divR, if_neg h1]⟩
    clear hx hn HR
    obtain ⟨q, hqq⟩ : ∃ q, a0 / a1 = q := ⟨_, rfl⟩
    obtain ⟨m, hmm⟩ : ∃ m, a0 % a1 = m := ⟨_, rfl⟩
    rw [hqq, hmm] at HP HE
    rw [hqq] at hl hh hq
    rw [hmm] at m0 m1
    clear hqq hmm
    have hx1 := hx'.1
    have hx2 := hx'.2
    have hn2 := hn'.2
    clear hx' hn'
    have hdec : decide (0 < a1) = true := decide_eq_true (by omega)
    by_cases hc : m ≥ a1 - m
    · have hq2 := hq (by omega)
      have HE2 : Aside0 (r = q + 1) := ⟨by rw [HE.out, if_pos hc]⟩
      have hd2 : decide (a1 - m ≤ m) = true := decide_eq_true hc
      clear HE hq hc
      go_enter Tryd.func58, Tryd.ntmps58
      go_wp2_with (first | (go_at_call 32; refine (round_Parts.calls _ _ _ _ _ HP.out).mono ?_; rintro e w' ⟨rfl, ⟨nd, rfl⟩⟩) | go_in)
      all_goals
        go_ret
        exact ⟨by rw [HE2.out]; rfl, by repeat (first | exact Below.refl _ _ | apply below_alloc | apply pw_below_drewN)⟩
    · have HE2 : Aside0 (r = q) := ⟨by rw [HE.out, if_neg hc]⟩
      have hd2 : decide (a1 - m ≤ m) = false := decide_eq_false hc
      clear HE hq hc
      go_enter Tryd.func58, Tryd.ntmps58
      go_wp2_with (first | (go_at_call 32; refine (round_Parts.calls _ _ _ _ _ HP.out).mono ?_; rintro e w' ⟨rfl, ⟨nd, rfl⟩⟩) | go_in)
      all_goals
        go_ret
        exact ⟨by rw [HE2.out]; rfl, by repeat (first | exact Below.refl _ _ | apply below_alloc | apply pw_below_drewN)⟩

/-! ### round_Half: function 49 -/
def round_Half.f (a0 : Int) (a1 : Int) : Option (Int) := if a1 < 0 then (some 0) else (if a1 > 62 then (some 0) else (if 0 ≤ a1 then ((round_Div.f a0 (shl .i64 1 a1)).bind fun t110 => (some t110)) else (none)))
set_option maxHeartbeats 8000000 in
set_option maxRecDepth 100000 in
theorem round_Half.calls (a0 : Int) (a1 : Int) (r : Int) (w : World) (h : round_Half.f a0 a1 = some r) :
    Calls Tryd.prog 49 #[.int .i64 a0, .int .i64 a1] w fun e w' => e = .returned (.int .i64 r) ∧ Below w.heap.size w w' := by
  have HB := Aside0.mk (Below.refl w.heap.size w)
  have H : (if a1 < 0 then (some 0) else (if a1 > 62 then (some 0) else (if 0 ≤ a1 then ((round_Div.f a0 (shl .i64 1 a1)).bind fun t110 => (some t110)) else (none)))) = some r := h
  clear h
  by_cases c3 : a1 < 0
  · rw [if_pos c3] at H
    have c3b0 : decide (a1 < 0) = true := decide_eq_true c3
    clear c3
    obtain rfl := Option.some.inj H
    go_enter Tryd.func49, Tryd.ntmps49
    go_wp2
    go_ret
    exact ⟨by first | rfl | (simp [errW_none, errW_some] <;> rfl) | (simp [*, errW_none, errW_some] <;> rfl), by repeat (first | (with_reducible first | exact HB.out | apply below_alloc | apply pw_below_drewN | apply below_drew1) | exact HB.out)⟩
  · rw [if_neg c3] at H
    have c3b0 : decide (a1 < 0) = false := decide_eq_false c3
    clear c3
    by_cases c4 : a1 > 62
    · rw [if_pos c4] at H
      have c4b0 : decide (62 < a1) = true := decide_eq_true c4
      clear c4
      obtain rfl := Option.some.inj H
      go_enter Tryd.func49, Tryd.ntmps49
      go_wp2
      go_ret
      exact ⟨by first | rfl | (simp [errW_none, errW_some] <;> rfl) | (simp [*, errW_none, errW_some] <;> rfl), by repeat (first | (with_reducible first | exact HB.out | apply below_alloc | apply pw_below_drewN | apply below_drew1) | exact HB.out)⟩
    · rw [if_neg c4] at H
      have c4b0 : decide (62 < a1) = false := decide_eq_false c4
      clear c4
      by_cases c5 : 0 ≤ a1
      · rw [if_pos c5] at H
        have c5b0 := eq_true c5
        have c5b1 : decide (0 ≤ a1) = true := decide_eq_true c5
        clear c5
        obtain ⟨ji6, hji6⟩ : ∃ j_ : Int, (shl .i64 1 a1) = j_ := ⟨_, rfl⟩
        replace H : ((round_Div.f a0 (ji6)).bind fun t110 => (some t110)) = some r := by first | (rw [hji6] at H; exact H) | (simp only [hji6] at H ⊢; exact H)
        have hji6_ : (IntKind.i64.wrap (1 * 2 ^ min a1.toNat 64)) = ji6 := hji6
        have hji6z : a1 ≤ 64 → (IntKind.i64.wrap (1 * 2 ^ a1.toNat)) = ji6 := shl_small hji6
        have hji6u : (IntKind.i64.wrap (2 ^ min a1.toNat 64)) = ji6 := by have h_ := hji6_; rw [Int.one_mul] at h_; exact h_
        have hji6v : a1 ≤ 64 → (IntKind.i64.wrap (2 ^ a1.toNat)) = ji6 := fun hle_ => by have h_ := hji6z hle_; rw [Int.one_mul] at h_; exact h_
        have hji6y : (wrap64 (1 * 2 ^ min a1.toNat 64)) = ji6 := (i64_w _).symm.trans hji6_
        have hji6x : a1 ≤ 64 → (wrap64 (1 * 2 ^ a1.toNat)) = ji6 := fun h_ => (i64_w _).symm.trans (hji6z h_)
        replace H := Option.bind_eq_some_iff.mp H
        obtain ⟨t110, A70, H⟩ := H
        replace H : (some t110) = some r := H
        have A7 := Aside0.mk A70
        clear A70
        obtain rfl := Option.some.inj H
        go_enter Tryd.func49, Tryd.ntmps49
        go_wp2_with (first | ((with_reducible refine gate_callee (f := 58) rfl ?_); refine goesL_ (some 14) rfl rfl Tryd.func58 (by kernel_rfl) rfl #[.int .i64 a0, .int .i64 ji6] rfl (by (try simp only [List.map_toArray, List.map_cons, List.map_nil]); first | done | (simp only [hji6]; rfl) | rfl | (simp only [List.length_drop, List.length_take]; rfl)) ?_; (with_reducible refine (round_Div.calls a0 ji6 t110 _ A7.out).mono ?_); rintro e w8 ⟨rfl, hb⟩; refine ⟨_, rfl, ?_⟩; have n0_ := Aside0.mk (below_step (by repeat (first | (with_reducible first | exact HB.out | apply below_alloc | apply pw_below_drewN | apply below_drew1) | exact HB.out)) hb); clear HB; have HB := n0_; clear n0_; (try clear hb); (try clear hb2); (try clear hk); (try clear hi)))
        go_ret
        exact ⟨by first | rfl | (simp [errW_none, errW_some] <;> rfl) | (simp only [← hji6]; first | rfl | (simp [errW_none, errW_some] <;> rfl)) | (simp [*, errW_none, errW_some] <;> rfl), by repeat (first | (with_reducible first | exact HB.out | apply below_alloc | apply pw_below_drewN | apply below_drew1) | exact HB.out)⟩
      · rw [if_neg c5] at H
        exact absurd H (by simp)

end Go.Proofs.YtphmfecabbellaaDoor.PFftBins
