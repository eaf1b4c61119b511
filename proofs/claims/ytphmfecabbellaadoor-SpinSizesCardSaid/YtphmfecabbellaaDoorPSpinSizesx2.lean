-- Written by a program of this work (wip/tools) for this claim; Lean checks it.
import Derived.Test.YtphmfecabbellaaDoorPSpinSizesx0
import Derived.Test.YtphmfecabbellaaDoorPSpinSizesx1
namespace Go.Proofs.YtphmfecabbellaaDoor.PSpinSizes
open Go.RowKit Go.Proofs.YtphmfecabbellaaDoorW.PrintWords Go.Proofs.YtphmfecabbellaaDoorW.PrintLast Go.Proofs.YtphmfecabbellaaDoorW.PrintMore
attribute [local go_sem] max2_int min2_int max_two min_two max_three min_three max_four min_four   -- for this text's walks alone
set_option linter.unusedVariables false
set_option linter.unusedSimpArgs false

/-! ### spin_Real: function 16 -/
def sp_sum (l : List Int) (T : Int → Int) (s : Nat) : Nat → Int
  | 0 => 0
  | n + 1 => wrap64 (sp_sum l T s n + wrap64 (l.getD n 0 * T ((n : Int) * (s : Int))))
def sp_may (h : Nat) : Bool := h == 1 || h == 2 || h == 4 || h == 8 || h == 16 || h == 32
def sp_part (l : List Int) (T : Int → Int) : Int := if sp_may l.length = true then sp_sum l T (32 / l.length) l.length else 0
def cosT (x : Int) : Int := cosAt (x % 64)
def sinT (x : Int) : Int := cosAt ((x % 64 - 16) % 64)
theorem sp_mask : ∀ h : Fin 33, h.1 = 0 ∨ sp_may h.1 = true ∨ (Go.bits .and .i64 ((h.1 : Nat) : Int) (((h.1 : Nat) : Int) - 1) != 0) = true := by decide +kernel
theorem sp_may_cases {h : Nat} (hm : sp_may h = true) : h = 1 ∨ h = 2 ∨ h = 4 ∨ h = 8 ∨ h = 16 ∨ h = 32 := by
  simp only [sp_may, Bool.or_eq_true, beq_iff_eq] at hm
  omega
theorem sp_cos {x : Int} (h0 : -9223372036854775808 ≤ x) (h1 : x ≤ 9223372036854775807) : circle_Cos.f x = some (cosT x) := by
  unfold circle_Cos.f
  rw [if_pos (by simp [ci64b, h0, h1])]
  rfl
set_option maxHeartbeats 16000000 in
theorem sum_cos (A0 : Option Addr) (h c0 : Nat) (l0 : List Int) (w : World) (hG : GlobA w) (hl : l0.length = h) (hr0 : Kd.C (Kd.int .i64) w A0 h l0) (hh : h ≤ 1000000) :
    Calls Tryd.prog 34 #[.slice A0 h c0, .func (.func 35) #[] #[]] w fun e w' => e = .returned (.int .i64 (sp_part l0 cosT)) ∧ Drawn0 w w' := by
  have HG := Aside0.mk hG
  have HC := Aside0.mk hr0
  clear hG hr0
  rcases Bool.eq_false_or_eq_true (sp_may h) with hm | hm
  · have HV : Aside0 (sp_part l0 cosT = sp_sum l0 cosT (32 / h) h) := ⟨by unfold sp_part; rw [hl, if_pos hm]⟩
    have HL := Aside0.mk hl
    clear hl
    rcases sp_may_cases hm with rfl | rfl | rfl | rfl | rfl | rfl
    · clear hm hh
      go_enter Tryd.func34, Tryd.ntmps34
      go_wp2
      go_loopw [6, 26] (fun v6 v wr => ∃ (i : Nat), i ≤ 1 ∧ v = .int .i64 (i : Int) ∧ v6 = .int .i64 (sp_sum l0 cosT (32 / 1) i) ∧ Aside0 (∃ k, wr = w.drewN k)) (fun _ v _ => 1 - (intOf v).toNat)
      case atStart => exact ⟨0, by omega, rfl, rfl, ⟨⟨0, rfl⟩⟩⟩
      case round =>
        obtain ⟨i, hi, rfl, rfl, HK⟩ := hrel
        obtain ⟨k, rfl⟩ := HK.out
        by_cases hlt : i < 1
        · obtain ⟨ad, rfl, hcs⟩ := sp_ad HC.out (by omega)
          have hcell := sp_cell HC.out i hlt
          obtain ⟨x, hx⟩ : ∃ x, l0.getD i 0 = x := ⟨_, rfl⟩
          rw [hx] at hcell
          obtain ⟨s, hs⟩ : ∃ s, sp_sum l0 cosT (32 / 1) i = s := ⟨_, rfl⟩
          have HN : Aside0 (sp_sum l0 cosT (32 / 1) (i + 1) = wrap64 (s + wrap64 (x * cosT ((i : Int) * 32)))) := ⟨by rw [sp_sum, hs, hx]; rfl⟩
          have HF : Aside0 (circle_Cos.f ((i : Int) * 32) = some (cosT ((i : Int) * 32))) := ⟨sp_cos (by omega) (by omega)⟩
          clear hcs hx
          rw [hs]
          clear hs
          go_wp2_with (go_at_call 35; (with_reducible refine (circle_Cos.calls _ _ _ (HG.out.drewN _) HF.out).mono ?_); rintro e w' ⟨rfl, ⟨nd, rfl⟩⟩)
          go_roundw
          case rel => exact ⟨i + 1, by omega, by go_num, by rw [HN.out], ⟨⟨_, rfl⟩⟩⟩
          case measure => simp [intOf]; omega
        · obtain rfl : i = 1 := by omega
          go_wp2
          go_ret
          exact ⟨by rw [HV.out]; rfl, ⟨⟨_, rfl⟩⟩⟩
    · clear hm hh
      go_enter Tryd.func34, Tryd.ntmps34
      go_wp2
      go_loopw [6, 26] (fun v6 v wr => ∃ (i : Nat), i ≤ 2 ∧ v = .int .i64 (i : Int) ∧ v6 = .int .i64 (sp_sum l0 cosT (32 / 2) i) ∧ Aside0 (∃ k, wr = w.drewN k)) (fun _ v _ => 2 - (intOf v).toNat)
      case atStart => exact ⟨0, by omega, rfl, rfl, ⟨⟨0, rfl⟩⟩⟩
      case round =>
        obtain ⟨i, hi, rfl, rfl, HK⟩ := hrel
        obtain ⟨k, rfl⟩ := HK.out
        by_cases hlt : i < 2
        · obtain ⟨ad, rfl, hcs⟩ := sp_ad HC.out (by omega)
          have hcell := sp_cell HC.out i hlt
          obtain ⟨x, hx⟩ : ∃ x, l0.getD i 0 = x := ⟨_, rfl⟩
          rw [hx] at hcell
          obtain ⟨s, hs⟩ : ∃ s, sp_sum l0 cosT (32 / 2) i = s := ⟨_, rfl⟩
          have HN : Aside0 (sp_sum l0 cosT (32 / 2) (i + 1) = wrap64 (s + wrap64 (x * cosT ((i : Int) * 16)))) := ⟨by rw [sp_sum, hs, hx]; rfl⟩
          have HF : Aside0 (circle_Cos.f ((i : Int) * 16) = some (cosT ((i : Int) * 16))) := ⟨sp_cos (by omega) (by omega)⟩
          clear hcs hx
          rw [hs]
          clear hs
          go_wp2_with (go_at_call 35; (with_reducible refine (circle_Cos.calls _ _ _ (HG.out.drewN _) HF.out).mono ?_); rintro e w' ⟨rfl, ⟨nd, rfl⟩⟩)
          go_roundw
          case rel => exact ⟨i + 1, by omega, by go_num, by rw [HN.out], ⟨⟨_, rfl⟩⟩⟩
          case measure => simp [intOf]; omega
        · obtain rfl : i = 2 := by omega
          go_wp2
          go_ret
          exact ⟨by rw [HV.out]; rfl, ⟨⟨_, rfl⟩⟩⟩
    · clear hm hh
      go_enter Tryd.func34, Tryd.ntmps34
      go_wp2
      go_loopw [6, 26] (fun v6 v wr => ∃ (i : Nat), i ≤ 4 ∧ v = .int .i64 (i : Int) ∧ v6 = .int .i64 (sp_sum l0 cosT (32 / 4) i) ∧ Aside0 (∃ k, wr = w.drewN k)) (fun _ v _ => 4 - (intOf v).toNat)
      case atStart => exact ⟨0, by omega, rfl, rfl, ⟨⟨0, rfl⟩⟩⟩
      case round =>
        obtain ⟨i, hi, rfl, rfl, HK⟩ := hrel
        obtain ⟨k, rfl⟩ := HK.out
        by_cases hlt : i < 4
        · obtain ⟨ad, rfl, hcs⟩ := sp_ad HC.out (by omega)
          have hcell := sp_cell HC.out i hlt
          obtain ⟨x, hx⟩ : ∃ x, l0.getD i 0 = x := ⟨_, rfl⟩
          rw [hx] at hcell
          obtain ⟨s, hs⟩ : ∃ s, sp_sum l0 cosT (32 / 4) i = s := ⟨_, rfl⟩
          have HN : Aside0 (sp_sum l0 cosT (32 / 4) (i + 1) = wrap64 (s + wrap64 (x * cosT ((i : Int) * 8)))) := ⟨by rw [sp_sum, hs, hx]; rfl⟩
          have HF : Aside0 (circle_Cos.f ((i : Int) * 8) = some (cosT ((i : Int) * 8))) := ⟨sp_cos (by omega) (by omega)⟩
          clear hcs hx
          rw [hs]
          clear hs
          go_wp2_with (go_at_call 35; (with_reducible refine (circle_Cos.calls _ _ _ (HG.out.drewN _) HF.out).mono ?_); rintro e w' ⟨rfl, ⟨nd, rfl⟩⟩)
          go_roundw
          case rel => exact ⟨i + 1, by omega, by go_num, by rw [HN.out], ⟨⟨_, rfl⟩⟩⟩
          case measure => simp [intOf]; omega
        · obtain rfl : i = 4 := by omega
          go_wp2
          go_ret
          exact ⟨by rw [HV.out]; rfl, ⟨⟨_, rfl⟩⟩⟩
    · clear hm hh
      go_enter Tryd.func34, Tryd.ntmps34
      go_wp2
      go_loopw [6, 26] (fun v6 v wr => ∃ (i : Nat), i ≤ 8 ∧ v = .int .i64 (i : Int) ∧ v6 = .int .i64 (sp_sum l0 cosT (32 / 8) i) ∧ Aside0 (∃ k, wr = w.drewN k)) (fun _ v _ => 8 - (intOf v).toNat)
      case atStart => exact ⟨0, by omega, rfl, rfl, ⟨⟨0, rfl⟩⟩⟩
      case round =>
        obtain ⟨i, hi, rfl, rfl, HK⟩ := hrel
        obtain ⟨k, rfl⟩ := HK.out
        by_cases hlt : i < 8
        · obtain ⟨ad, rfl, hcs⟩ := sp_ad HC.out (by omega)
          have hcell := sp_cell HC.out i hlt
          obtain ⟨x, hx⟩ : ∃ x, l0.getD i 0 = x := ⟨_, rfl⟩
          rw [hx] at hcell
          obtain ⟨s, hs⟩ : ∃ s, sp_sum l0 cosT (32 / 8) i = s := ⟨_, rfl⟩
          have HN : Aside0 (sp_sum l0 cosT (32 / 8) (i + 1) = wrap64 (s + wrap64 (x * cosT ((i : Int) * 4)))) := ⟨by rw [sp_sum, hs, hx]; rfl⟩
          have HF : Aside0 (circle_Cos.f ((i : Int) * 4) = some (cosT ((i : Int) * 4))) := ⟨sp_cos (by omega) (by omega)⟩
          clear hcs hx
          rw [hs]
          clear hs
          go_wp2_with (go_at_call 35; (with_reducible refine (circle_Cos.calls _ _ _ (HG.out.drewN _) HF.out).mono ?_); rintro e w' ⟨rfl, ⟨nd, rfl⟩⟩)
          go_roundw
          case rel => exact ⟨i + 1, by omega, by go_num, by rw [HN.out], ⟨⟨_, rfl⟩⟩⟩
          case measure => simp [intOf]; omega
        · obtain rfl : i = 8 := by omega
          go_wp2
          go_ret
          exact ⟨by rw [HV.out]; rfl, ⟨⟨_, rfl⟩⟩⟩
    · clear hm hh
      go_enter Tryd.func34, Tryd.ntmps34
      go_wp2
      go_loopw [6, 26] (fun v6 v wr => ∃ (i : Nat), i ≤ 16 ∧ v = .int .i64 (i : Int) ∧ v6 = .int .i64 (sp_sum l0 cosT (32 / 16) i) ∧ Aside0 (∃ k, wr = w.drewN k)) (fun _ v _ => 16 - (intOf v).toNat)
      case atStart => exact ⟨0, by omega, rfl, rfl, ⟨⟨0, rfl⟩⟩⟩
      case round =>
        obtain ⟨i, hi, rfl, rfl, HK⟩ := hrel
        obtain ⟨k, rfl⟩ := HK.out
        by_cases hlt : i < 16
        · obtain ⟨ad, rfl, hcs⟩ := sp_ad HC.out (by omega)
          have hcell := sp_cell HC.out i hlt
          obtain ⟨x, hx⟩ : ∃ x, l0.getD i 0 = x := ⟨_, rfl⟩
          rw [hx] at hcell
          obtain ⟨s, hs⟩ : ∃ s, sp_sum l0 cosT (32 / 16) i = s := ⟨_, rfl⟩
          have HN : Aside0 (sp_sum l0 cosT (32 / 16) (i + 1) = wrap64 (s + wrap64 (x * cosT ((i : Int) * 2)))) := ⟨by rw [sp_sum, hs, hx]; rfl⟩
          have HF : Aside0 (circle_Cos.f ((i : Int) * 2) = some (cosT ((i : Int) * 2))) := ⟨sp_cos (by omega) (by omega)⟩
          clear hcs hx
          rw [hs]
          clear hs
          go_wp2_with (go_at_call 35; (with_reducible refine (circle_Cos.calls _ _ _ (HG.out.drewN _) HF.out).mono ?_); rintro e w' ⟨rfl, ⟨nd, rfl⟩⟩)
          go_roundw
          case rel => exact ⟨i + 1, by omega, by go_num, by rw [HN.out], ⟨⟨_, rfl⟩⟩⟩
          case measure => simp [intOf]; omega
        · obtain rfl : i = 16 := by omega
          go_wp2
          go_ret
          exact ⟨by rw [HV.out]; rfl, ⟨⟨_, rfl⟩⟩⟩
    · clear hm hh
      go_enter Tryd.func34, Tryd.ntmps34
      go_wp2
      go_loopw [6, 26] (fun v6 v wr => ∃ (i : Nat), i ≤ 32 ∧ v = .int .i64 (i : Int) ∧ v6 = .int .i64 (sp_sum l0 cosT (32 / 32) i) ∧ Aside0 (∃ k, wr = w.drewN k)) (fun _ v _ => 32 - (intOf v).toNat)
      case atStart => exact ⟨0, by omega, rfl, rfl, ⟨⟨0, rfl⟩⟩⟩
      case round =>
        obtain ⟨i, hi, rfl, rfl, HK⟩ := hrel
        obtain ⟨k, rfl⟩ := HK.out
        by_cases hlt : i < 32
        · obtain ⟨ad, rfl, hcs⟩ := sp_ad HC.out (by omega)
          have hcell := sp_cell HC.out i hlt
          obtain ⟨x, hx⟩ : ∃ x, l0.getD i 0 = x := ⟨_, rfl⟩
          rw [hx] at hcell
          obtain ⟨s, hs⟩ : ∃ s, sp_sum l0 cosT (32 / 32) i = s := ⟨_, rfl⟩
          have HN : Aside0 (sp_sum l0 cosT (32 / 32) (i + 1) = wrap64 (s + wrap64 (x * cosT (i : Int)))) := ⟨by rw [sp_sum, hs, hx, show ((32 / 32 : Nat) : Int) = 1 from rfl, Int.mul_one]⟩
          have HF : Aside0 (circle_Cos.f (i : Int) = some (cosT (i : Int))) := ⟨sp_cos (by omega) (by omega)⟩
          clear hcs hx
          rw [hs]
          clear hs
          go_wp2_with (go_at_call 35; (with_reducible refine (circle_Cos.calls _ _ _ (HG.out.drewN _) HF.out).mono ?_); rintro e w' ⟨rfl, ⟨nd, rfl⟩⟩)
          go_roundw
          case rel => exact ⟨i + 1, by omega, by go_num, by rw [HN.out], ⟨⟨_, rfl⟩⟩⟩
          case measure => simp [intOf]; omega
        · obtain rfl : i = 32 := by omega
          go_wp2
          go_ret
          exact ⟨by rw [HV.out]; rfl, ⟨⟨_, rfl⟩⟩⟩
  · have HV : Aside0 (sp_part l0 cosT = 0) := ⟨by unfold sp_part; rw [hl, if_neg (by rw [hm]; decide)]⟩
    have hcase : h = 0 ∨ 0 < h ∧ h ≤ 32 ∧ (Go.bits .and .i64 (h : Int) ((h : Int) - 1) != 0) = true ∨ 32 < h := by
      by_cases h1 : h ≤ 32
      · rcases sp_mask ⟨h, by omega⟩ with h2 | h2 | h2
        · exact .inl h2
        · rw [hm] at h2; cases h2
        · by_cases h3 : h = 0
          · exact .inl h3
          · exact .inr (.inl ⟨by omega, h1, h2⟩)
      · exact .inr (.inr (by omega))
    clear hl hm
    rcases hcase with rfl | ⟨h0, h1, h2⟩ | h1
    · go_enter Tryd.func34, Tryd.ntmps34
      go_wp2
      go_ret
      exact ⟨by rw [HV.out]; rfl, ⟨⟨0, rfl⟩⟩⟩
    · have hd : ((h : Int) == 0) = false := by simp; omega
      go_enter Tryd.func34, Tryd.ntmps34
      go_wp2
      go_ret
      exact ⟨by rw [HV.out]; rfl, ⟨⟨0, rfl⟩⟩⟩
    · have hd : ((h : Int) == 0) = false := by simp; omega
      go_enter Tryd.func34, Tryd.ntmps34
      go_wp2
      all_goals
        go_ret
        exact ⟨by rw [HV.out]; rfl, ⟨⟨0, rfl⟩⟩⟩
def spin_Real.f (l0 : List Int) : Option Int := if decide (l0.length ≤ 1000000) then some (sp_part l0 cosT) else none
theorem real_go (A0 : Option Addr) (h c0 : Nat) (l0 : List Int) (w : World) (hG : GlobA w) (hl : l0.length = h) (hr0 : Kd.C (Kd.int .i64) w A0 h l0) (hh : h ≤ 1000000) :
    Calls Tryd.prog 16 #[.slice A0 h c0] w fun e w' => e = .returned (.int .i64 (sp_part l0 cosT)) ∧ Drawn0 w w' := by
  have HG := Aside0.mk hG
  have HC := Aside0.mk hr0
  have HL := Aside0.mk hl
  clear hG hr0 hl
  go_enter Tryd.func16, Tryd.ntmps16
  go_wp2_with (go_at_call 34; (with_reducible refine (sum_cos A0 h c0 l0 _ HG.out HL.out HC.out hh).mono ?_); rintro e w' ⟨rfl, ⟨nd, rfl⟩⟩)
  go_ret
  exact ⟨rfl, ⟨⟨_, rfl⟩⟩⟩
theorem spin_Real.calls (A0 : Option Addr) (c0 : Nat) (l0 : List Int) (r : Int) (w : World) (hG : GlobA w) (hr0 : Kd.C (Kd.int .i64) w A0 l0.length l0) (hc0 : l0.length ≤ c0) (h : spin_Real.f l0 = some r) :
    Calls Tryd.prog 16 #[.slice A0 l0.length c0] w fun e w' => e = .returned (.int .i64 r) ∧ Drawn0 w w' := by
  unfold spin_Real.f at h
  split at h
  case isFalse => cases h
  rename_i hz
  obtain rfl := Option.some.inj h
  exact real_go A0 _ c0 l0 w hG rfl hr0 (of_decide_eq_true hz)

/-! ### circle_Sin: function 36 -/
def circle_Sin.f (a0 : Int) : Option (Int) := (circle_Rest.f a0).bind fun t103 => ((circle_Cos.f (wrap64 (t103 - 16))).bind fun t104 => (some t104))
set_option maxHeartbeats 8000000 in
set_option maxRecDepth 100000 in
theorem circle_Sin.calls (a0 : Int) (r : Int) (w : World) (hG : GlobA w) (h : circle_Sin.f a0 = some r) :
    Calls Tryd.prog 36 #[.int .i64 a0] w fun e w' => e = .returned (.int .i64 r) ∧ Drawn0 w w' := by
  have HG := Aside0.mk hG
  clear hG
  have H : ((circle_Rest.f a0).bind fun t103 => ((circle_Cos.f (wrap64 (t103 - 16))).bind fun t104 => (some t104))) = some r := h
  clear h
  replace H := Option.bind_eq_some_iff.mp H
  obtain ⟨t103, A20, H⟩ := H
  replace H : ((circle_Cos.f (wrap64 (t103 - 16))).bind fun t104 => (some t104)) = some r := H
  have A2 := Aside0.mk A20
  clear A20
  replace H := Option.bind_eq_some_iff.mp H
  obtain ⟨t104, A30, H⟩ := H
  replace H : (some t104) = some r := H
  have A3 := Aside0.mk A30
  clear A30
  obtain rfl := Option.some.inj H
  go_enter Tryd.func36, Tryd.ntmps36
  go_wp2_with (first | ((with_reducible refine gate_callee (f := 54) rfl ?_); refine goesL_ (some 4) rfl rfl Tryd.func54 (by kernel_rfl) rfl #[.int .i64 a0] rfl (by (try simp only [List.map_toArray, List.map_cons, List.map_nil]); first | done | rfl | (simp only [List.length_drop, List.length_take]; rfl)) ?_; (with_reducible refine (circle_Rest.calls a0 t103 _ A2.out).mono ?_); rintro e w' ⟨rfl, ⟨nd, rfl⟩⟩; refine ⟨_, rfl, ?_⟩) | ((with_reducible refine gate_callee (f := 35) rfl ?_); refine goesL_ (some 6) rfl rfl Tryd.func35 (by kernel_rfl) rfl #[.int .i64 (wrap64 (t103 - 16))] rfl (by (try simp only [List.map_toArray, List.map_cons, List.map_nil]); first | done | rfl | (simp only [List.length_drop, List.length_take]; rfl)) ?_; (with_reducible refine (circle_Cos.calls (wrap64 (t103 - 16)) t104 _ ?side1 A3.out).mono ?_); (case side1 => first | exact HG.out | exact GlobA.drewN HG.out _); rintro e w' ⟨rfl, ⟨nd, rfl⟩⟩; refine ⟨_, rfl, ?_⟩))
  go_ret
  exact ⟨by first | rfl | (simp; done) | (simp [*]; done), by repeat (first | exact Drawn0.refl _ | apply Drawn0.step)⟩

/-! ### spin_Imag: function 17 -/
theorem sp_sin {x : Int} (h0 : -9223372036854775808 ≤ x) (h1 : x ≤ 9223372036854775807) : circle_Sin.f x = some (sinT x) := by
  unfold circle_Sin.f
  have m0 := Int.emod_nonneg x (show (64 : Int) ≠ 0 by decide)
  have m1 := Int.emod_lt_of_pos x (show (0 : Int) < 64 by decide)
  rw [rest_some (by simp [ci64b, h0, h1]), Option.bind_some, show wrap64 (x % 64 - 16) = x % 64 - 16 by unfold wrap64; omega, sp_cos (by omega) (by omega)]
  rfl
set_option maxHeartbeats 16000000 in
theorem sum_sin (A0 : Option Addr) (h c0 : Nat) (l0 : List Int) (w : World) (hG : GlobA w) (hl : l0.length = h) (hr0 : Kd.C (Kd.int .i64) w A0 h l0) (hh : h ≤ 1000000) :
    Calls Tryd.prog 34 #[.slice A0 h c0, .func (.func 36) #[] #[]] w fun e w' => e = .returned (.int .i64 (sp_part l0 sinT)) ∧ Drawn0 w w' := by
  have HG := Aside0.mk hG
  have HC := Aside0.mk hr0
  clear hG hr0
  rcases Bool.eq_false_or_eq_true (sp_may h) with hm | hm
  · have HV : Aside0 (sp_part l0 sinT = sp_sum l0 sinT (32 / h) h) := ⟨by unfold sp_part; rw [hl, if_pos hm]⟩
    have HL := Aside0.mk hl
    clear hl
    rcases sp_may_cases hm with rfl | rfl | rfl | rfl | rfl | rfl
    · clear hm hh
      go_enter Tryd.func34, Tryd.ntmps34
      go_wp2
      go_loopw [6, 26] (fun v6 v wr => ∃ (i : Nat), i ≤ 1 ∧ v = .int .i64 (i : Int) ∧ v6 = .int .i64 (sp_sum l0 sinT (32 / 1) i) ∧ Aside0 (∃ k, wr = w.drewN k)) (fun _ v _ => 1 - (intOf v).toNat)
      case atStart => exact ⟨0, by omega, rfl, rfl, ⟨⟨0, rfl⟩⟩⟩
      case round =>
        obtain ⟨i, hi, rfl, rfl, HK⟩ := hrel
        obtain ⟨k, rfl⟩ := HK.out
        by_cases hlt : i < 1
        · obtain ⟨ad, rfl, hcs⟩ := sp_ad HC.out (by omega)
          have hcell := sp_cell HC.out i hlt
          obtain ⟨x, hx⟩ : ∃ x, l0.getD i 0 = x := ⟨_, rfl⟩
          rw [hx] at hcell
          obtain ⟨s, hs⟩ : ∃ s, sp_sum l0 sinT (32 / 1) i = s := ⟨_, rfl⟩
          have HN : Aside0 (sp_sum l0 sinT (32 / 1) (i + 1) = wrap64 (s + wrap64 (x * sinT ((i : Int) * 32)))) := ⟨by rw [sp_sum, hs, hx]; rfl⟩
          have HF : Aside0 (circle_Sin.f ((i : Int) * 32) = some (sinT ((i : Int) * 32))) := ⟨sp_sin (by omega) (by omega)⟩
          clear hcs hx
          rw [hs]
          clear hs
          go_wp2_with (go_at_call 36; (with_reducible refine (circle_Sin.calls _ _ _ (HG.out.drewN _) HF.out).mono ?_); rintro e w' ⟨rfl, ⟨nd, rfl⟩⟩)
          go_roundw
          case rel => exact ⟨i + 1, by omega, by go_num, by rw [HN.out], ⟨⟨_, rfl⟩⟩⟩
          case measure => simp [intOf]; omega
        · obtain rfl : i = 1 := by omega
          go_wp2
          go_ret
          exact ⟨by rw [HV.out]; rfl, ⟨⟨_, rfl⟩⟩⟩
    · clear hm hh
      go_enter Tryd.func34, Tryd.ntmps34
      go_wp2
      go_loopw [6, 26] (fun v6 v wr => ∃ (i : Nat), i ≤ 2 ∧ v = .int .i64 (i : Int) ∧ v6 = .int .i64 (sp_sum l0 sinT (32 / 2) i) ∧ Aside0 (∃ k, wr = w.drewN k)) (fun _ v _ => 2 - (intOf v).toNat)
      case atStart => exact ⟨0, by omega, rfl, rfl, ⟨⟨0, rfl⟩⟩⟩
      case round =>
        obtain ⟨i, hi, rfl, rfl, HK⟩ := hrel
        obtain ⟨k, rfl⟩ := HK.out
        by_cases hlt : i < 2
        · obtain ⟨ad, rfl, hcs⟩ := sp_ad HC.out (by omega)
          have hcell := sp_cell HC.out i hlt
          obtain ⟨x, hx⟩ : ∃ x, l0.getD i 0 = x := ⟨_, rfl⟩
          rw [hx] at hcell
          obtain ⟨s, hs⟩ : ∃ s, sp_sum l0 sinT (32 / 2) i = s := ⟨_, rfl⟩
          have HN : Aside0 (sp_sum l0 sinT (32 / 2) (i + 1) = wrap64 (s + wrap64 (x * sinT ((i : Int) * 16)))) := ⟨by rw [sp_sum, hs, hx]; rfl⟩
          have HF : Aside0 (circle_Sin.f ((i : Int) * 16) = some (sinT ((i : Int) * 16))) := ⟨sp_sin (by omega) (by omega)⟩
          clear hcs hx
          rw [hs]
          clear hs
          go_wp2_with (go_at_call 36; (with_reducible refine (circle_Sin.calls _ _ _ (HG.out.drewN _) HF.out).mono ?_); rintro e w' ⟨rfl, ⟨nd, rfl⟩⟩)
          go_roundw
          case rel => exact ⟨i + 1, by omega, by go_num, by rw [HN.out], ⟨⟨_, rfl⟩⟩⟩
          case measure => simp [intOf]; omega
        · obtain rfl : i = 2 := by omega
          go_wp2
          go_ret
          exact ⟨by rw [HV.out]; rfl, ⟨⟨_, rfl⟩⟩⟩
    · clear hm hh
      go_enter Tryd.func34, Tryd.ntmps34
      go_wp2
      go_loopw [6, 26] (fun v6 v wr => ∃ (i : Nat), i ≤ 4 ∧ v = .int .i64 (i : Int) ∧ v6 = .int .i64 (sp_sum l0 sinT (32 / 4) i) ∧ Aside0 (∃ k, wr = w.drewN k)) (fun _ v _ => 4 - (intOf v).toNat)
      case atStart => exact ⟨0, by omega, rfl, rfl, ⟨⟨0, rfl⟩⟩⟩
      case round =>
        obtain ⟨i, hi, rfl, rfl, HK⟩ := hrel
        obtain ⟨k, rfl⟩ := HK.out
        by_cases hlt : i < 4
        · obtain ⟨ad, rfl, hcs⟩ := sp_ad HC.out (by omega)
          have hcell := sp_cell HC.out i hlt
          obtain ⟨x, hx⟩ : ∃ x, l0.getD i 0 = x := ⟨_, rfl⟩
          rw [hx] at hcell
          obtain ⟨s, hs⟩ : ∃ s, sp_sum l0 sinT (32 / 4) i = s := ⟨_, rfl⟩
          have HN : Aside0 (sp_sum l0 sinT (32 / 4) (i + 1) = wrap64 (s + wrap64 (x * sinT ((i : Int) * 8)))) := ⟨by rw [sp_sum, hs, hx]; rfl⟩
          have HF : Aside0 (circle_Sin.f ((i : Int) * 8) = some (sinT ((i : Int) * 8))) := ⟨sp_sin (by omega) (by omega)⟩
          clear hcs hx
          rw [hs]
          clear hs
          go_wp2_with (go_at_call 36; (with_reducible refine (circle_Sin.calls _ _ _ (HG.out.drewN _) HF.out).mono ?_); rintro e w' ⟨rfl, ⟨nd, rfl⟩⟩)
          go_roundw
          case rel => exact ⟨i + 1, by omega, by go_num, by rw [HN.out], ⟨⟨_, rfl⟩⟩⟩
          case measure => simp [intOf]; omega
        · obtain rfl : i = 4 := by omega
          go_wp2
          go_ret
          exact ⟨by rw [HV.out]; rfl, ⟨⟨_, rfl⟩⟩⟩
    · clear hm hh
      go_enter Tryd.func34, Tryd.ntmps34
      go_wp2
      go_loopw [6, 26] (fun v6 v wr => ∃ (i : Nat), i ≤ 8 ∧ v = .int .i64 (i : Int) ∧ v6 = .int .i64 (sp_sum l0 sinT (32 / 8) i) ∧ Aside0 (∃ k, wr = w.drewN k)) (fun _ v _ => 8 - (intOf v).toNat)
      case atStart => exact ⟨0, by omega, rfl, rfl, ⟨⟨0, rfl⟩⟩⟩
      case round =>
        obtain ⟨i, hi, rfl, rfl, HK⟩ := hrel
        obtain ⟨k, rfl⟩ := HK.out
        by_cases hlt : i < 8
        · obtain ⟨ad, rfl, hcs⟩ := sp_ad HC.out (by omega)
          have hcell := sp_cell HC.out i hlt
          obtain ⟨x, hx⟩ : ∃ x, l0.getD i 0 = x := ⟨_, rfl⟩
          rw [hx] at hcell
          obtain ⟨s, hs⟩ : ∃ s, sp_sum l0 sinT (32 / 8) i = s := ⟨_, rfl⟩
          have HN : Aside0 (sp_sum l0 sinT (32 / 8) (i + 1) = wrap64 (s + wrap64 (x * sinT ((i : Int) * 4)))) := ⟨by rw [sp_sum, hs, hx]; rfl⟩
          have HF : Aside0 (circle_Sin.f ((i : Int) * 4) = some (sinT ((i : Int) * 4))) := ⟨sp_sin (by omega) (by omega)⟩
          clear hcs hx
          rw [hs]
          clear hs
          go_wp2_with (go_at_call 36; (with_reducible refine (circle_Sin.calls _ _ _ (HG.out.drewN _) HF.out).mono ?_); rintro e w' ⟨rfl, ⟨nd, rfl⟩⟩)
          go_roundw
          case rel => exact ⟨i + 1, by omega, by go_num, by rw [HN.out], ⟨⟨_, rfl⟩⟩⟩
          case measure => simp [intOf]; omega
        · obtain rfl : i = 8 := by omega
          go_wp2
          go_ret
          exact ⟨by rw [HV.out]; rfl, ⟨⟨_, rfl⟩⟩⟩
    · clear hm hh
      go_enter Tryd.func34, Tryd.ntmps34
      go_wp2
      go_loopw [6, 26] (fun v6 v wr => ∃ (i : Nat), i ≤ 16 ∧ v = .int .i64 (i : Int) ∧ v6 = .int .i64 (sp_sum l0 sinT (32 / 16) i) ∧ Aside0 (∃ k, wr = w.drewN k)) (fun _ v _ => 16 - (intOf v).toNat)
      case atStart => exact ⟨0, by omega, rfl, rfl, ⟨⟨0, rfl⟩⟩⟩
      case round =>
        obtain ⟨i, hi, rfl, rfl, HK⟩ := hrel
        obtain ⟨k, rfl⟩ := HK.out
        by_cases hlt : i < 16
        · obtain ⟨ad, rfl, hcs⟩ := sp_ad HC.out (by omega)
          have hcell := sp_cell HC.out i hlt
          obtain ⟨x, hx⟩ : ∃ x, l0.getD i 0 = x := ⟨_, rfl⟩
          rw [hx] at hcell
          obtain ⟨s, hs⟩ : ∃ s, sp_sum l0 sinT (32 / 16) i = s := ⟨_, rfl⟩
          have HN : Aside0 (sp_sum l0 sinT (32 / 16) (i + 1) = wrap64 (s + wrap64 (x * sinT ((i : Int) * 2)))) := ⟨by rw [sp_sum, hs, hx]; rfl⟩
          have HF : Aside0 (circle_Sin.f ((i : Int) * 2) = some (sinT ((i : Int) * 2))) := ⟨sp_sin (by omega) (by omega)⟩
          clear hcs hx
          rw [hs]
          clear hs
          go_wp2_with (go_at_call 36; (with_reducible refine (circle_Sin.calls _ _ _ (HG.out.drewN _) HF.out).mono ?_); rintro e w' ⟨rfl, ⟨nd, rfl⟩⟩)
          go_roundw
          case rel => exact ⟨i + 1, by omega, by go_num, by rw [HN.out], ⟨⟨_, rfl⟩⟩⟩
          case measure => simp [intOf]; omega
        · obtain rfl : i = 16 := by omega
          go_wp2
          go_ret
          exact ⟨by rw [HV.out]; rfl, ⟨⟨_, rfl⟩⟩⟩
    · clear hm hh
      go_enter Tryd.func34, Tryd.ntmps34
      go_wp2
      go_loopw [6, 26] (fun v6 v wr => ∃ (i : Nat), i ≤ 32 ∧ v = .int .i64 (i : Int) ∧ v6 = .int .i64 (sp_sum l0 sinT (32 / 32) i) ∧ Aside0 (∃ k, wr = w.drewN k)) (fun _ v _ => 32 - (intOf v).toNat)
      case atStart => exact ⟨0, by omega, rfl, rfl, ⟨⟨0, rfl⟩⟩⟩
      case round =>
        obtain ⟨i, hi, rfl, rfl, HK⟩ := hrel
        obtain ⟨k, rfl⟩ := HK.out
        by_cases hlt : i < 32
        · obtain ⟨ad, rfl, hcs⟩ := sp_ad HC.out (by omega)
          have hcell := sp_cell HC.out i hlt
          obtain ⟨x, hx⟩ : ∃ x, l0.getD i 0 = x := ⟨_, rfl⟩
          rw [hx] at hcell
          obtain ⟨s, hs⟩ : ∃ s, sp_sum l0 sinT (32 / 32) i = s := ⟨_, rfl⟩
          have HN : Aside0 (sp_sum l0 sinT (32 / 32) (i + 1) = wrap64 (s + wrap64 (x * sinT (i : Int)))) := ⟨by rw [sp_sum, hs, hx, show ((32 / 32 : Nat) : Int) = 1 from rfl, Int.mul_one]⟩
          have HF : Aside0 (circle_Sin.f (i : Int) = some (sinT (i : Int))) := ⟨sp_sin (by omega) (by omega)⟩
          clear hcs hx
          rw [hs]
          clear hs
          go_wp2_with (go_at_call 36; (with_reducible refine (circle_Sin.calls _ _ _ (HG.out.drewN _) HF.out).mono ?_); rintro e w' ⟨rfl, ⟨nd, rfl⟩⟩)
          go_roundw
          case rel => exact ⟨i + 1, by omega, by go_num, by rw [HN.out], ⟨⟨_, rfl⟩⟩⟩
          case measure => simp [intOf]; omega
        · obtain rfl : i = 32 := by omega
          go_wp2
          go_ret
          exact ⟨by rw [HV.out]; rfl, ⟨⟨_, rfl⟩⟩⟩
  · have HV : Aside0 (sp_part l0 sinT = 0) := ⟨by unfold sp_part; rw [hl, if_neg (by rw [hm]; decide)]⟩
    have hcase : h = 0 ∨ 0 < h ∧ h ≤ 32 ∧ (Go.bits .and .i64 (h : Int) ((h : Int) - 1) != 0) = true ∨ 32 < h := by
      by_cases h1 : h ≤ 32
      · rcases sp_mask ⟨h, by omega⟩ with h2 | h2 | h2
        · exact .inl h2
        · rw [hm] at h2; cases h2
        · by_cases h3 : h = 0
          · exact .inl h3
          · exact .inr (.inl ⟨by omega, h1, h2⟩)
      · exact .inr (.inr (by omega))
    clear hl hm
    rcases hcase with rfl | ⟨h0, h1, h2⟩ | h1
    · go_enter Tryd.func34, Tryd.ntmps34
      go_wp2
      go_ret
      exact ⟨by rw [HV.out]; rfl, ⟨⟨0, rfl⟩⟩⟩
    · have hd : ((h : Int) == 0) = false := by simp; omega
      go_enter Tryd.func34, Tryd.ntmps34
      go_wp2
      go_ret
      exact ⟨by rw [HV.out]; rfl, ⟨⟨0, rfl⟩⟩⟩
    · have hd : ((h : Int) == 0) = false := by simp; omega
      go_enter Tryd.func34, Tryd.ntmps34
      go_wp2
      all_goals
        go_ret
        exact ⟨by rw [HV.out]; rfl, ⟨⟨0, rfl⟩⟩⟩
def spin_Imag.f (l0 : List Int) : Option Int := if decide (l0.length ≤ 1000000) then some (wrap64 (-(sp_part l0 sinT))) else none
theorem imag_go (A0 : Option Addr) (h c0 : Nat) (l0 : List Int) (w : World) (hG : GlobA w) (hl : l0.length = h) (hr0 : Kd.C (Kd.int .i64) w A0 h l0) (hh : h ≤ 1000000) :
    Calls Tryd.prog 17 #[.slice A0 h c0] w fun e w' => e = .returned (.int .i64 (wrap64 (-(sp_part l0 sinT)))) ∧ Drawn0 w w' := by
  have HG := Aside0.mk hG
  have HC := Aside0.mk hr0
  have HL := Aside0.mk hl
  clear hG hr0 hl
  go_enter Tryd.func17, Tryd.ntmps17
  go_wp2_with (go_at_call 34; (with_reducible refine (sum_sin A0 h c0 l0 _ HG.out HL.out HC.out hh).mono ?_); rintro e w' ⟨rfl, ⟨nd, rfl⟩⟩)
  go_ret
  exact ⟨rfl, ⟨⟨_, rfl⟩⟩⟩
theorem spin_Imag.calls (A0 : Option Addr) (c0 : Nat) (l0 : List Int) (r : Int) (w : World) (hG : GlobA w) (hr0 : Kd.C (Kd.int .i64) w A0 l0.length l0) (hc0 : l0.length ≤ c0) (h : spin_Imag.f l0 = some r) :
    Calls Tryd.prog 17 #[.slice A0 l0.length c0] w fun e w' => e = .returned (.int .i64 r) ∧ Drawn0 w w' := by
  unfold spin_Imag.f at h
  split at h
  case isFalse => cases h
  rename_i hz
  obtain rfl := Option.some.inj h
  exact imag_go A0 _ c0 l0 w hG rfl hr0 (of_decide_eq_true hz)

/-! ### earshotref04_Same: function 19 -/
def earshotref04_Same.l0 : Nat → List Int → List Int → Int → Option (Bool)
  | 0, _, _, _ => none
  | k + 1, x0, x1, x5 => if x5 < (x0.length : Int) then (if 0 ≤ x5 then (if x5 < (x1.length : Int) then (if (rd x0 x5) = (rd x1 x5) then (earshotref04_Same.l0 k x0 x1 (wrap64 (x5 + 1))) else (some false)) else (none)) else (none)) else (some true)
def earshotref04_Same.f (k : Nat) (l0 : List Int) (l1 : List Int) : Option (Bool) := if (l0.length : Int) = (l1.length : Int) then (earshotref04_Same.l0 k l0 l1 0) else (some false)
theorem earshotref04_Same.mono_l : ∀ k, (∀ y0 y1 y2, LeO (earshotref04_Same.l0 k y0 y1 y2) (earshotref04_Same.l0 (k + 1) y0 y1 y2))
  | 0 => fun _ _ _ r h => by simp [earshotref04_Same.l0] at h
  | k + 1 => by
    have ih0 := earshotref04_Same.mono_l k
    · intro y0 y1 y2
      unfold earshotref04_Same.l0
      repeat' first
      | (with_reducible exact ih0 _ _ _)
      | (with_reducible exact LeO.refl _)
      | (with_reducible exact LeO.none _)
      | (with_reducible refine LeO.ite ?_ ?_)
      | (with_reducible refine LeO.bind ?_ (fun _ => ?_))
      | exact ih0 _ _ _
      | exact LeO.none _
      | refine LeO.ite ?_ ?_
      | refine LeO.bind ?_ (fun _ => ?_)
theorem earshotref04_Same.mono : ∀ a0 a1 k, LeO (earshotref04_Same.f k a0 a1) (earshotref04_Same.f (k + 1) a0 a1) := by
  intro a0 a1 k
  have ih0 := earshotref04_Same.mono_l k
  unfold earshotref04_Same.f
  repeat' first
      | (with_reducible exact ih0 _ _ _)
      | (with_reducible exact LeO.refl _)
      | (with_reducible exact LeO.none _)
      | (with_reducible refine LeO.ite ?_ ?_)
      | (with_reducible refine LeO.bind ?_ (fun _ => ?_))
      | exact ih0 _ _ _
      | exact LeO.none _
      | refine LeO.ite ?_ ?_
      | refine LeO.bind ?_ (fun _ => ?_)
set_option maxHeartbeats 8000000 in
set_option maxRecDepth 100000 in
theorem earshotref04_Same.calls (k : Nat) (A0 : Option Addr) (c0 : Nat) (l0 : List Int) (A1 : Option Addr) (c1 : Nat) (l1 : List Int) (r : Bool) (w : World) (hr0 : Kd.C (Kd.int .i64) w A0 l0.length l0) (hc0 : l0.length ≤ c0) (hr1 : Kd.C (Kd.int .i64) w A1 l1.length l1) (hc1 : l1.length ≤ c1) (h : earshotref04_Same.f k l0 l1 = some r) :
    Calls Tryd.prog 19 #[.slice A0 l0.length c0, .slice A1 l1.length c1] w fun e w' => e = .returned (.bool r) ∧ Drawn0 w w' := by
  have HR0 := Aside0.mk hr0
  have HC0 := Aside0.mk hc0
  clear hr0 hc0
  have HR1 := Aside0.mk hr1
  have HC1 := Aside0.mk hc1
  clear hr1 hc1
  have H : (if (l0.length : Int) = (l1.length : Int) then (earshotref04_Same.l0 k l0 l1 0) else (some false)) = some r := h
  clear h
  by_cases c3 : (l0.length : Int) = (l1.length : Int)
  · rw [if_pos c3] at H
    have c3b0 : ((l0.length : Int) == (l1.length : Int)) = true := beq_iff_eq.mpr c3
    have c3b1 : ((l0.length : Int) != (l1.length : Int)) = false := bne_eq_false_iff_eq.mpr c3
    have c3b2 : (l0.length == l1.length) = true := by first | simpa using c3 | (simp at c3 ⊢; omega)
    clear c3
    have H' := Aside0.mk H
    clear H
    go_enter Tryd.func19, Tryd.ntmps19
    go_wp2
    repeat (go_quiet (fail); try go_wp2)
    go_loopg [5] k (fun kq v5 w' => ∃ (x5_1 : Int), v5 = .int .i64 x5_1 ∧ Aside0 (earshotref04_Same.l0 kq l0 l1 x5_1 = some r) ∧ Aside0 (kq ≤ k) ∧ Drawn0 w w')
    case atStart => exact ⟨(0), (by first | rfl | (simp; done) | (simp [*]; done)), H', ⟨Nat.le_refl _⟩, by repeat (first | exact Drawn0.refl _ | apply Drawn0.step)⟩
    case round =>
      clear H'
      try clear c1
      try clear p2
      try clear c3
      try clear c3b0
      try clear c3b1
      try clear c3b2
      obtain ⟨x5_1, rfl, HA, HK1, ⟨m1, rfl⟩⟩ := hrel
      cases gk with
      | zero => exact absurd HA.out (by simp [earshotref04_Same.l0])
      | succ k1 =>
        have H := HA.out
        clear HA
        simp only [earshotref04_Same.l0] at H
        by_cases c4 : x5_1 < (l0.length : Int)
        · rw [if_pos c4] at H
          have c4b0 : decide (x5_1 < (l0.length : Int)) = true := decide_eq_true c4
          clear c4
          by_cases c5 : 0 ≤ x5_1
          · rw [if_pos c5] at H
            have c5b0 : decide (0 ≤ x5_1) = true := decide_eq_true c5
            clear c5
            by_cases c6 : x5_1 < (l1.length : Int)
            · rw [if_pos c6] at H
              have c6b0 : decide (x5_1 < (l1.length : Int)) = true := decide_eq_true c6
              clear c6
              by_cases c7 : (rd l0 x5_1) = (rd l1 x5_1)
              · rw [if_pos c7] at H
                have c7b0 : ((rd l0 x5_1) == (rd l1 x5_1)) = true := beq_iff_eq.mpr c7
                have c7b1 : ((rd l0 x5_1) != (rd l1 x5_1)) = false := bne_eq_false_iff_eq.mpr c7
                clear c7
                have H' := Aside0.mk H
                clear H
                have p105 : 0 ≤ (x5_1 : Int) := of_decide_eq_true (by first | (with_reducible assumption) | assumption)
                have q105 : x5_1 < (l0.length : Int) := of_decide_eq_true (by first | (with_reducible assumption) | assumption)
                obtain ⟨ad105, e105, hx105_0⟩ := Kd.at_int HR0.out x5_1 p105 q105
                cases e105
                replace p105 := eq_true p105
                replace q105 := eq_true q105
                have p106 : 0 ≤ (x5_1 : Int) := of_decide_eq_true (by first | (with_reducible assumption) | assumption)
                have q106 : x5_1 < (l1.length : Int) := of_decide_eq_true (by first | (with_reducible assumption) | assumption)
                obtain ⟨ad106, e106, hx106_0⟩ := Kd.at_int HR1.out x5_1 p106 q106
                cases e106
                replace p106 := eq_true p106
                replace q106 := eq_true q106
                go_wp2
                repeat (go_quiet (fail); try go_wp2)
                go_roundg k1
                case measure => have := HK1.out; omega
                case rel => exact ⟨(wrap64 (x5_1 + 1)), (by first | rfl | (simp; done) | (simp [*]; done)), H', ⟨by have := HK1.out; omega⟩, by repeat (first | exact Drawn0.refl _ | apply Drawn0.step)⟩
              · rw [if_neg c7] at H
                have c7b0 : ((rd l0 x5_1) == (rd l1 x5_1)) = false := beq_eq_false_iff_ne.mpr c7
                have c7b1 : ((rd l0 x5_1) != (rd l1 x5_1)) = true := bne_iff_ne.mpr c7
                obtain rfl := Option.some.inj H
                have p105 : 0 ≤ (x5_1 : Int) := of_decide_eq_true (by first | (with_reducible assumption) | assumption)
                have q105 : x5_1 < (l0.length : Int) := of_decide_eq_true (by first | (with_reducible assumption) | assumption)
                obtain ⟨ad105, e105, hx105_0⟩ := Kd.at_int HR0.out x5_1 p105 q105
                cases e105
                replace p105 := eq_true p105
                replace q105 := eq_true q105
                have p106 : 0 ≤ (x5_1 : Int) := of_decide_eq_true (by first | (with_reducible assumption) | assumption)
                have q106 : x5_1 < (l1.length : Int) := of_decide_eq_true (by first | (with_reducible assumption) | assumption)
                obtain ⟨ad106, e106, hx106_0⟩ := Kd.at_int HR1.out x5_1 p106 q106
                cases e106
                replace p106 := eq_true p106
                replace q106 := eq_true q106
                go_wp2
                repeat (go_quiet (fail); try go_wp2)
                go_ret
                exact ⟨by first | rfl | (simp; done) | (simp [*]; done), by repeat (first | exact Drawn0.refl _ | apply Drawn0.step)⟩
            · rw [if_neg c6] at H
              exact absurd H (by simp)
          · rw [if_neg c5] at H
            exact absurd H (by simp)
        · rw [if_neg c4] at H
          have c4b0 : decide (x5_1 < (l0.length : Int)) = false := decide_eq_false c4
          clear c4
          obtain rfl := Option.some.inj H
          go_wp2
          repeat (go_quiet (fail); try go_wp2)
          go_ret
          exact ⟨by first | rfl | (simp; done) | (simp [*]; done), by repeat (first | exact Drawn0.refl _ | apply Drawn0.step)⟩
  · rw [if_neg c3] at H
    have c3b0 : ((l0.length : Int) == (l1.length : Int)) = false := beq_eq_false_iff_ne.mpr c3
    have c3b1 : ((l0.length : Int) != (l1.length : Int)) = true := bne_iff_ne.mpr c3
    have c3b2 : (l0.length == l1.length) = false := by first | simpa using c3 | (simp at c3 ⊢; omega)
    obtain rfl := Option.some.inj H
    go_enter Tryd.func19, Tryd.ntmps19
    go_wp2
    repeat (go_quiet (fail); try go_wp2)
    go_ret
    exact ⟨by first | rfl | (simp; done) | (simp [*]; done), by repeat (first | exact Drawn0.refl _ | apply Drawn0.step)⟩

/-! ### earshotlaw09_awake: function 13 -/
def earshotlaw09_awake.f (k : Nat)  : Option (Bool) := (spin_Turn.f (([1, 2, 3, 4] : List Int)) 1).bind fun t110 => ((earshotref04_Same.f k t110 (([(-4), 1, 2, 3] : List Int))).bind fun t116 => (if t116 = true then ((spin_Real.f (([0, 1] : List Int))).bind fun t120 => (if t120 = 0 then ((spin_Imag.f (([0, 1] : List Int))).bind fun t124 => (some (t124 == (-16384)))) else (some false))) else (some false)))
theorem earshotlaw09_awake.mono : ∀ k, LeO (earshotlaw09_awake.f k ) (earshotlaw09_awake.f (k + 1) ) := by
  intro  k
  unfold earshotlaw09_awake.f
  repeat' first
      | (with_reducible exact earshotref04_Same.mono _ _ _)
      | (with_reducible exact LeO.refl _)
      | (with_reducible exact LeO.none _)
      | (with_reducible refine LeO.ite ?_ ?_)
      | (with_reducible refine LeO.bind ?_ (fun _ => ?_))
      | exact earshotref04_Same.mono _ _ _
      | exact LeO.none _
      | refine LeO.ite ?_ ?_
      | refine LeO.bind ?_ (fun _ => ?_)
set_option maxHeartbeats 8000000 in
set_option maxRecDepth 100000 in
theorem earshotlaw09_awake.calls (k : Nat)  (r : Bool) (w : World) (hG : GlobA w) (h : earshotlaw09_awake.f k  = some r) :
    Calls Tryd.prog 13 #[] w fun e w' => e = .returned (.bool r) ∧ Below w.heap.size w w' := by
  have HB := Aside0.mk (Below.refl w.heap.size w)
  have HG := Aside0.mk hG
  clear hG
  have H : ((spin_Turn.f (([1, 2, 3, 4] : List Int)) 1).bind fun t110 => ((earshotref04_Same.f k t110 (([(-4), 1, 2, 3] : List Int))).bind fun t116 => (if t116 = true then ((spin_Real.f (([0, 1] : List Int))).bind fun t120 => (if t120 = 0 then ((spin_Imag.f (([0, 1] : List Int))).bind fun t124 => (some (t124 == (-16384)))) else (some false))) else (some false)))) = some r := h
  clear h
  obtain ⟨y107, hy107⟩ : ∃ y_ : List Int, y_ = (([1, 2, 3, 4] : List Int)) := ⟨_, rfl⟩
  replace H : ((spin_Turn.f y107 1).bind fun t110 => ((earshotref04_Same.f k t110 (([(-4), 1, 2, 3] : List Int))).bind fun t116 => (if t116 = true then ((spin_Real.f (([0, 1] : List Int))).bind fun t120 => (if t120 = 0 then ((spin_Imag.f (([0, 1] : List Int))).bind fun t124 => (some (t124 == (-16384)))) else (some false))) else (some false)))) = some r := by first | (rw [hy107]; with_reducible exact H) | (have H2_ := (Option.bind_some _ _).symm.trans H; rw [hy107]; with_reducible exact H2_) | (have H2_ := (Option.bind_some _ _).symm.trans H; with_reducible exact H2_) | with_reducible exact H | (rw [hy107]; exact H) | exact H
  have Ny107 := Aside0.mk hy107
  clear hy107
  replace H := Option.bind_eq_some_iff.mp H
  obtain ⟨t110, A10, H⟩ := H
  replace H : ((earshotref04_Same.f k t110 (([(-4), 1, 2, 3] : List Int))).bind fun t116 => (if t116 = true then ((spin_Real.f (([0, 1] : List Int))).bind fun t120 => (if t120 = 0 then ((spin_Imag.f (([0, 1] : List Int))).bind fun t124 => (some (t124 == (-16384)))) else (some false))) else (some false))) = some r := H
  have A1 := Aside0.mk A10
  clear A10
  obtain ⟨y113, hy113⟩ : ∃ y_ : List Int, y_ = (([(-4), 1, 2, 3] : List Int)) := ⟨_, rfl⟩
  replace H : ((earshotref04_Same.f k t110 y113).bind fun t116 => (if t116 = true then ((spin_Real.f (([0, 1] : List Int))).bind fun t120 => (if t120 = 0 then ((spin_Imag.f (([0, 1] : List Int))).bind fun t124 => (some (t124 == (-16384)))) else (some false))) else (some false))) = some r := by first | (rw [hy113]; with_reducible exact H) | (have H2_ := (Option.bind_some _ _).symm.trans H; rw [hy113]; with_reducible exact H2_) | (have H2_ := (Option.bind_some _ _).symm.trans H; with_reducible exact H2_) | with_reducible exact H | (rw [hy113]; exact H) | exact H
  have Ny113 := Aside0.mk hy113
  clear hy113
  replace H := Option.bind_eq_some_iff.mp H
  obtain ⟨t116, A20, H⟩ := H
  replace H : (if t116 = true then ((spin_Real.f (([0, 1] : List Int))).bind fun t120 => (if t120 = 0 then ((spin_Imag.f (([0, 1] : List Int))).bind fun t124 => (some (t124 == (-16384)))) else (some false))) else (some false)) = some r := H
  have A2 := Aside0.mk A20
  clear A20
  by_cases c3 : t116 = true
  · subst c3
    have H1 : ((spin_Real.f (([0, 1] : List Int))).bind fun t120 => (if t120 = 0 then ((spin_Imag.f (([0, 1] : List Int))).bind fun t124 => (some (t124 == (-16384)))) else (some false))) = some r := by rw [if_pos rfl] at H; exact H
    clear H
    have H := H1
    clear H1
    obtain ⟨y117, hy117⟩ : ∃ y_ : List Int, y_ = (([0, 1] : List Int)) := ⟨_, rfl⟩
    replace H : ((spin_Real.f y117).bind fun t120 => (if t120 = 0 then ((spin_Imag.f (([0, 1] : List Int))).bind fun t124 => (some (t124 == (-16384)))) else (some false))) = some r := by first | (rw [hy117]; with_reducible exact H) | (have H2_ := (Option.bind_some _ _).symm.trans H; rw [hy117]; with_reducible exact H2_) | (have H2_ := (Option.bind_some _ _).symm.trans H; with_reducible exact H2_) | with_reducible exact H | (rw [hy117]; exact H) | exact H
    have Ny117 := Aside0.mk hy117
    clear hy117
    replace H := Option.bind_eq_some_iff.mp H
    obtain ⟨t120, A40, H⟩ := H
    replace H : (if t120 = 0 then ((spin_Imag.f (([0, 1] : List Int))).bind fun t124 => (some (t124 == (-16384)))) else (some false)) = some r := H
    have A4 := Aside0.mk A40
    clear A40
    by_cases c5 : t120 = 0
    · rw [if_pos c5] at H
      have c5b0 : (t120 == 0) = true := beq_iff_eq.mpr c5
      have c5b1 : (t120 != 0) = false := bne_eq_false_iff_eq.mpr c5
      clear c5
      obtain ⟨y121, hy121⟩ : ∃ y_ : List Int, y_ = (([0, 1] : List Int)) := ⟨_, rfl⟩
      replace H : ((spin_Imag.f y121).bind fun t124 => (some (t124 == (-16384)))) = some r := by first | (rw [hy121]; with_reducible exact H) | (have H2_ := (Option.bind_some _ _).symm.trans H; rw [hy121]; with_reducible exact H2_) | (have H2_ := (Option.bind_some _ _).symm.trans H; with_reducible exact H2_) | with_reducible exact H | (rw [hy121]; exact H) | exact H
      have Ny121 := Aside0.mk hy121
      clear hy121
      replace H := Option.bind_eq_some_iff.mp H
      obtain ⟨t124, A60, H⟩ := H
      replace H : (some (t124 == (-16384))) = some r := H
      have A6 := Aside0.mk A60
      clear A60
      obtain rfl := Option.some.inj H
      go_enter Tryd.func13, Tryd.ntmps13
      go_wp2_with (first | ((with_reducible refine gate_dst (N := 2) rfl ?_); (try (refine gate_guard (by rfl) ?_; dsimp only)); refine Kd.R_lit (Kd.int .i64) _ 3 ?hg (N := 2) ?hd (xs := ([1, 2, 3, 4] : List Int)) (inner := [.int .i64 1, .int .i64 2, .int .i64 3, .int .i64 4]) (ok := fun _ => True) (okp := fun _ => True) ?hr ?hp (fun _ hk => hk) trivial (Below.refl _ _) (Nat.le_refl _) (by simp) ?_; (case hd => rfl); (case hg => first | rfl | exact wanted_on rfl rfl rfl (by first | assumption | rfl | (simp [*]; done))); (case hr => first | (go_simp; done) | (go_simp; rfl)); (case hp => exact (Reps.one (show Kd.M (Kd.int .i64) _ _ _ 1 [.int .i64 1] from rfl) (Reps.one (show Kd.M (Kd.int .i64) _ _ _ 2 [.int .i64 2] from rfl) (Reps.one (show Kd.M (Kd.int .i64) _ _ _ 3 [.int .i64 3] from rfl) (Reps.one (show Kd.M (Kd.int .i64) _ _ _ 4 [.int .i64 4] from rfl) (Reps.none _ _)))))); intro v108 w7 ho8 hb hg_ hnew_; clear hg_ hnew_; (first | rw [← Ny107.out] at ho8 | (simp only [Int.reduceToNat] at ho8; rw [← Ny107.out] at ho8)); have n0_ := Aside0.mk (Kd.R_lower ho8 (below_size (by repeat (first | (with_reducible first | exact HB.out | apply below_alloc | apply pw_below_drewN | apply below_drew1) | exact HB.out)))); have n1_ := Aside0.mk (below_step (by repeat (first | (with_reducible first | exact HB.out | apply below_alloc | apply pw_below_drewN | apply below_drew1) | exact HB.out)) hb); clear HB; have HO109 := n0_; have HB := n1_; clear n0_ n1_; clear hb ho8; obtain ⟨Ao9, co9, eo9⟩ := Kd.R_slice HO109.out; subst eo9) | ((with_reducible refine gate_callee (f := 15) rfl ?_); refine goesL_ (some 3) rfl rfl Tryd.func15 (by kernel_rfl) rfl #[.slice Ao9 y107.length co9, .int .i64 1] rfl (by (try simp only [List.map_toArray, List.map_cons, List.map_nil]); first | done | rfl | (simp only [List.length_drop, List.length_take]; rfl)) ?_; (with_reducible refine (spin_Turn.calls _ _ y107 1 t110 _ ?side1 ?side2 A1.out).mono ?_); (case side1 => repeat (first | exact (Kd.R_reads' HO109.out).2.2 | (with_reducible refine Kd.C_alloc ?_ _) | (with_reducible refine Kd.C_drewN ?_ _) | (with_reducible refine Kd.C_drew ?_))); (case side2 => exact (Kd.R_reads' HO109.out).2.1); rintro e w10 ⟨v111, rfl, ho0, hb⟩; refine ⟨_, rfl, ?_⟩; have n0_ := Aside0.mk (Kd.R_elder' (by (with_reducible repeat (first | apply Kd.R_alloc | apply Kd.R_drewN | apply Kd.R_drew)); (first | exact HO109.out | exact Kd.R_mono HO109.out (fun _ _ => trivial) | exact Kd.R_mono HO109.out (fun _ hk => hk.1))) (Kd.R_base ho0) hb); have n1_ := Aside0.mk (Kd.R_lower (Kd.R_new' ho0 (Kd.R_lt (by (with_reducible repeat (first | apply Kd.R_alloc | apply Kd.R_drewN | apply Kd.R_drew)); (first | exact HO109.out | exact Kd.R_mono HO109.out (fun _ _ => trivial) | exact Kd.R_mono HO109.out (fun _ hk => hk.1))))) (below_size (by repeat (first | (with_reducible first | exact HB.out | apply below_alloc | apply pw_below_drewN | apply below_drew1) | exact HB.out)))); have n2_ := Aside0.mk (below_step (by repeat (first | (with_reducible first | exact HB.out | apply below_alloc | apply pw_below_drewN | apply below_drew1) | exact HB.out)) hb); clear HO109; clear HB; have HO109 := n0_; have HO112 := n1_; have HB := n2_; clear n0_ n1_ n2_; (try clear hb); (try clear hb2); (try clear hk); (try clear hi); (try clear ho0)) | ((with_reducible refine gate_dst (N := 4) rfl ?_); (try (refine gate_guard (by rfl) ?_; dsimp only)); refine Kd.R_lit (Kd.int .i64) _ 3 ?hg (N := 4) ?hd (xs := ([(-4), 1, 2, 3] : List Int)) (inner := [.int .i64 (-4), .int .i64 1, .int .i64 2, .int .i64 3]) (ok := fun _ => True) (okp := fun _ => True) ?hr ?hp (fun _ hk => hk) trivial (Below.refl _ _) (Nat.le_refl _) (by simp) ?_; (case hd => rfl); (case hg => first | rfl | exact wanted_on rfl rfl rfl (by first | assumption | rfl | (simp [*]; done))); (case hr => first | (go_simp; done) | (go_simp; rfl)); (case hp => exact (Reps.one (show Kd.M (Kd.int .i64) _ _ _ (-4) [.int .i64 (-4)] from rfl) (Reps.one (show Kd.M (Kd.int .i64) _ _ _ 1 [.int .i64 1] from rfl) (Reps.one (show Kd.M (Kd.int .i64) _ _ _ 2 [.int .i64 2] from rfl) (Reps.one (show Kd.M (Kd.int .i64) _ _ _ 3 [.int .i64 3] from rfl) (Reps.none _ _)))))); intro v114 w11 ho12 hb hg_ hnew_; clear hg_ hnew_; (first | rw [← Ny113.out] at ho12 | (simp only [Int.reduceToNat] at ho12; rw [← Ny113.out] at ho12)); have n0_ := Aside0.mk (Kd.R_elder' (by (with_reducible repeat (first | apply Kd.R_alloc | apply Kd.R_drewN | apply Kd.R_drew)); (first | exact HO109.out | exact Kd.R_mono HO109.out (fun _ _ => trivial) | exact Kd.R_mono HO109.out (fun _ hk => hk.1))) (Kd.R_base ho12) hb); have n1_ := Aside0.mk (Kd.R_elder' (by (with_reducible repeat (first | apply Kd.R_alloc | apply Kd.R_drewN | apply Kd.R_drew)); (first | exact HO112.out | exact Kd.R_mono HO112.out (fun _ _ => trivial) | exact Kd.R_mono HO112.out (fun _ hk => hk.1))) (Kd.R_base ho12) hb); have n2_ := Aside0.mk (Kd.R_lower (Kd.R_new' (Kd.R_new' ho12 (Kd.R_lt (by (with_reducible repeat (first | apply Kd.R_alloc | apply Kd.R_drewN | apply Kd.R_drew)); (first | exact HO109.out | exact Kd.R_mono HO109.out (fun _ _ => trivial) | exact Kd.R_mono HO109.out (fun _ hk => hk.1))))) (Kd.R_lt (by (with_reducible repeat (first | apply Kd.R_alloc | apply Kd.R_drewN | apply Kd.R_drew)); (first | exact HO112.out | exact Kd.R_mono HO112.out (fun _ _ => trivial) | exact Kd.R_mono HO112.out (fun _ hk => hk.1))))) (below_size (by repeat (first | (with_reducible first | exact HB.out | apply below_alloc | apply pw_below_drewN | apply below_drew1) | exact HB.out)))); have n3_ := Aside0.mk (below_step (by repeat (first | (with_reducible first | exact HB.out | apply below_alloc | apply pw_below_drewN | apply below_drew1) | exact HB.out)) hb); clear HO109; clear HO112; clear HB; have HO109 := n0_; have HO112 := n1_; have HO115 := n2_; have HB := n3_; clear n0_ n1_ n2_ n3_; clear hb ho12; obtain ⟨Ao13, co13, eo13⟩ := Kd.R_slice HO112.out; subst eo13; obtain ⟨Ao14, co14, eo14⟩ := Kd.R_slice HO115.out; subst eo14) | ((with_reducible refine gate_callee (f := 19) rfl ?_); refine goesL_ (some 5) rfl rfl Tryd.func19 (by kernel_rfl) rfl #[.slice Ao13 t110.length co13, .slice Ao14 y113.length co14] rfl (by (try simp only [List.map_toArray, List.map_cons, List.map_nil]); first | done | rfl | (simp only [List.length_drop, List.length_take]; rfl)) ?_; (with_reducible refine (earshotref04_Same.calls k _ _ t110 _ _ y113 true _ ?side1 ?side2 ?side3 ?side4 A2.out).mono ?_); (case side1 => repeat (first | exact (Kd.R_reads' HO112.out).2.2 | (with_reducible refine Kd.C_alloc ?_ _) | (with_reducible refine Kd.C_drewN ?_ _) | (with_reducible refine Kd.C_drew ?_))); (case side2 => exact (Kd.R_reads' HO112.out).2.1); (case side3 => repeat (first | exact (Kd.R_reads' HO115.out).2.2 | (with_reducible refine Kd.C_alloc ?_ _) | (with_reducible refine Kd.C_drewN ?_ _) | (with_reducible refine Kd.C_drew ?_))); (case side4 => exact (Kd.R_reads' HO115.out).2.1); rintro e w' ⟨rfl, ⟨nd, rfl⟩⟩; refine ⟨_, rfl, ?_⟩) | ((with_reducible refine gate_dst (N := 8) rfl ?_); (try (refine gate_guard (by rfl) ?_; dsimp only)); refine Kd.R_lit (Kd.int .i64) _ 3 ?hg (N := 8) ?hd (xs := ([0, 1] : List Int)) (inner := [.int .i64 0, .int .i64 1]) (ok := fun _ => True) (okp := fun _ => True) ?hr ?hp (fun _ hk => hk) trivial (Below.refl _ _) (Nat.le_refl _) (by simp) ?_; (case hd => rfl); (case hg => first | rfl | exact wanted_on rfl rfl rfl (by first | assumption | rfl | (simp [*]; done))); (case hr => first | (go_simp; done) | (go_simp; rfl)); (case hp => exact (Reps.one (show Kd.M (Kd.int .i64) _ _ _ 0 [.int .i64 0] from rfl) (Reps.one (show Kd.M (Kd.int .i64) _ _ _ 1 [.int .i64 1] from rfl) (Reps.none _ _)))); intro v118 w15 ho16 hb hg_ hnew_; clear hg_ hnew_; (first | rw [← Ny117.out] at ho16 | (simp only [Int.reduceToNat] at ho16; rw [← Ny117.out] at ho16)); have n0_ := Aside0.mk (Kd.R_elder' (by (with_reducible repeat (first | apply Kd.R_alloc | apply Kd.R_drewN | apply Kd.R_drew)); (first | exact HO109.out | exact Kd.R_mono HO109.out (fun _ _ => trivial) | exact Kd.R_mono HO109.out (fun _ hk => hk.1))) (Kd.R_base ho16) hb); have n1_ := Aside0.mk (Kd.R_elder' (by (with_reducible repeat (first | apply Kd.R_alloc | apply Kd.R_drewN | apply Kd.R_drew)); (first | exact HO112.out | exact Kd.R_mono HO112.out (fun _ _ => trivial) | exact Kd.R_mono HO112.out (fun _ hk => hk.1))) (Kd.R_base ho16) hb); have n2_ := Aside0.mk (Kd.R_elder' (by (with_reducible repeat (first | apply Kd.R_alloc | apply Kd.R_drewN | apply Kd.R_drew)); (first | exact HO115.out | exact Kd.R_mono HO115.out (fun _ _ => trivial) | exact Kd.R_mono HO115.out (fun _ hk => hk.1))) (Kd.R_base ho16) hb); have n3_ := Aside0.mk (Kd.R_lower (Kd.R_new' (Kd.R_new' (Kd.R_new' ho16 (Kd.R_lt (by (with_reducible repeat (first | apply Kd.R_alloc | apply Kd.R_drewN | apply Kd.R_drew)); (first | exact HO109.out | exact Kd.R_mono HO109.out (fun _ _ => trivial) | exact Kd.R_mono HO109.out (fun _ hk => hk.1))))) (Kd.R_lt (by (with_reducible repeat (first | apply Kd.R_alloc | apply Kd.R_drewN | apply Kd.R_drew)); (first | exact HO112.out | exact Kd.R_mono HO112.out (fun _ _ => trivial) | exact Kd.R_mono HO112.out (fun _ hk => hk.1))))) (Kd.R_lt (by (with_reducible repeat (first | apply Kd.R_alloc | apply Kd.R_drewN | apply Kd.R_drew)); (first | exact HO115.out | exact Kd.R_mono HO115.out (fun _ _ => trivial) | exact Kd.R_mono HO115.out (fun _ hk => hk.1))))) (below_size (by repeat (first | (with_reducible first | exact HB.out | apply below_alloc | apply pw_below_drewN | apply below_drew1) | exact HB.out)))); have n4_ := Aside0.mk (below_step (by repeat (first | (with_reducible first | exact HB.out | apply below_alloc | apply pw_below_drewN | apply below_drew1) | exact HB.out)) hb); clear HO109; clear HO112; clear HO115; clear HB; have HO109 := n0_; have HO112 := n1_; have HO115 := n2_; have HO119 := n3_; have HB := n4_; clear n0_ n1_ n2_ n3_ n4_; clear hb ho16; obtain ⟨Ao17, co17, eo17⟩ := Kd.R_slice HO119.out; subst eo17) | (go_at_call 16; (with_reducible refine (spin_Real.calls _ _ y117 t120 _ ?side1 ?side2 ?side3 A4.out).mono ?_); (case side1 => exact GlobA.below HG.out (by repeat (first | (with_reducible first | exact HB.out | apply below_alloc | apply pw_below_drewN | apply below_drew1) | exact HB.out))); (case side2 => repeat (first | exact (Kd.R_reads' HO119.out).2.2 | (with_reducible refine Kd.C_alloc ?_ _) | (with_reducible refine Kd.C_drewN ?_ _) | (with_reducible refine Kd.C_drew ?_))); (case side3 => exact (Kd.R_reads' HO119.out).2.1); rintro e w' ⟨rfl, ⟨nd, rfl⟩⟩) | ((with_reducible refine gate_dst (N := 13) rfl ?_); (try (refine gate_guard (by rfl) ?_; dsimp only)); refine Kd.R_lit (Kd.int .i64) _ 3 ?hg (N := 13) ?hd (xs := ([0, 1] : List Int)) (inner := [.int .i64 0, .int .i64 1]) (ok := fun _ => True) (okp := fun _ => True) ?hr ?hp (fun _ hk => hk) trivial (Below.refl _ _) (Nat.le_refl _) (by simp) ?_; (case hd => rfl); (case hg => first | rfl | exact wanted_on rfl rfl rfl (by first | assumption | rfl | (simp [*]; done))); (case hr => first | (go_simp; done) | (go_simp; rfl)); (case hp => exact (Reps.one (show Kd.M (Kd.int .i64) _ _ _ 0 [.int .i64 0] from rfl) (Reps.one (show Kd.M (Kd.int .i64) _ _ _ 1 [.int .i64 1] from rfl) (Reps.none _ _)))); intro v122 w18 ho19 hb hg_ hnew_; clear hg_ hnew_; (first | rw [← Ny121.out] at ho19 | (simp only [Int.reduceToNat] at ho19; rw [← Ny121.out] at ho19)); have n0_ := Aside0.mk (Kd.R_elder' (by (with_reducible repeat (first | apply Kd.R_alloc | apply Kd.R_drewN | apply Kd.R_drew)); (first | exact HO109.out | exact Kd.R_mono HO109.out (fun _ _ => trivial) | exact Kd.R_mono HO109.out (fun _ hk => hk.1))) (Kd.R_base ho19) hb); have n1_ := Aside0.mk (Kd.R_elder' (by (with_reducible repeat (first | apply Kd.R_alloc | apply Kd.R_drewN | apply Kd.R_drew)); (first | exact HO112.out | exact Kd.R_mono HO112.out (fun _ _ => trivial) | exact Kd.R_mono HO112.out (fun _ hk => hk.1))) (Kd.R_base ho19) hb); have n2_ := Aside0.mk (Kd.R_elder' (by (with_reducible repeat (first | apply Kd.R_alloc | apply Kd.R_drewN | apply Kd.R_drew)); (first | exact HO115.out | exact Kd.R_mono HO115.out (fun _ _ => trivial) | exact Kd.R_mono HO115.out (fun _ hk => hk.1))) (Kd.R_base ho19) hb); have n3_ := Aside0.mk (Kd.R_elder' (by (with_reducible repeat (first | apply Kd.R_alloc | apply Kd.R_drewN | apply Kd.R_drew)); (first | exact HO119.out | exact Kd.R_mono HO119.out (fun _ _ => trivial) | exact Kd.R_mono HO119.out (fun _ hk => hk.1))) (Kd.R_base ho19) hb); have n4_ := Aside0.mk (Kd.R_lower (Kd.R_new' (Kd.R_new' (Kd.R_new' (Kd.R_new' ho19 (Kd.R_lt (by (with_reducible repeat (first | apply Kd.R_alloc | apply Kd.R_drewN | apply Kd.R_drew)); (first | exact HO109.out | exact Kd.R_mono HO109.out (fun _ _ => trivial) | exact Kd.R_mono HO109.out (fun _ hk => hk.1))))) (Kd.R_lt (by (with_reducible repeat (first | apply Kd.R_alloc | apply Kd.R_drewN | apply Kd.R_drew)); (first | exact HO112.out | exact Kd.R_mono HO112.out (fun _ _ => trivial) | exact Kd.R_mono HO112.out (fun _ hk => hk.1))))) (Kd.R_lt (by (with_reducible repeat (first | apply Kd.R_alloc | apply Kd.R_drewN | apply Kd.R_drew)); (first | exact HO115.out | exact Kd.R_mono HO115.out (fun _ _ => trivial) | exact Kd.R_mono HO115.out (fun _ hk => hk.1))))) (Kd.R_lt (by (with_reducible repeat (first | apply Kd.R_alloc | apply Kd.R_drewN | apply Kd.R_drew)); (first | exact HO119.out | exact Kd.R_mono HO119.out (fun _ _ => trivial) | exact Kd.R_mono HO119.out (fun _ hk => hk.1))))) (below_size (by repeat (first | (with_reducible first | exact HB.out | apply below_alloc | apply pw_below_drewN | apply below_drew1) | exact HB.out)))); have n5_ := Aside0.mk (below_step (by repeat (first | (with_reducible first | exact HB.out | apply below_alloc | apply pw_below_drewN | apply below_drew1) | exact HB.out)) hb); clear HO109; clear HO112; clear HO115; clear HO119; clear HB; have HO109 := n0_; have HO112 := n1_; have HO115 := n2_; have HO119 := n3_; have HO123 := n4_; have HB := n5_; clear n0_ n1_ n2_ n3_ n4_ n5_; clear hb ho19; obtain ⟨Ao20, co20, eo20⟩ := Kd.R_slice HO123.out; subst eo20) | (go_at_call 17; (with_reducible refine (spin_Imag.calls _ _ y121 t124 _ ?side1 ?side2 ?side3 A6.out).mono ?_); (case side1 => exact GlobA.below HG.out (by repeat (first | (with_reducible first | exact HB.out | apply below_alloc | apply pw_below_drewN | apply below_drew1) | exact HB.out))); (case side2 => repeat (first | exact (Kd.R_reads' HO123.out).2.2 | (with_reducible refine Kd.C_alloc ?_ _) | (with_reducible refine Kd.C_drewN ?_ _) | (with_reducible refine Kd.C_drew ?_))); (case side3 => exact (Kd.R_reads' HO123.out).2.1); rintro e w' ⟨rfl, ⟨nd, rfl⟩⟩))
      go_ret
      exact ⟨by first | rfl | (simp [errW_none, errW_some] <;> rfl) | (simp [*, errW_none, errW_some] <;> rfl), by repeat (first | (with_reducible first | exact HB.out | apply below_alloc | apply pw_below_drewN | apply below_drew1) | exact HB.out)⟩
    · rw [if_neg c5] at H
      have c5b0 : (t120 == 0) = false := beq_eq_false_iff_ne.mpr c5
      have c5b1 : (t120 != 0) = true := bne_iff_ne.mpr c5
      obtain rfl := Option.some.inj H
      go_enter Tryd.func13, Tryd.ntmps13
      go_wp2_with (first | ((with_reducible refine gate_dst (N := 2) rfl ?_); (try (refine gate_guard (by rfl) ?_; dsimp only)); refine Kd.R_lit (Kd.int .i64) _ 3 ?hg (N := 2) ?hd (xs := ([1, 2, 3, 4] : List Int)) (inner := [.int .i64 1, .int .i64 2, .int .i64 3, .int .i64 4]) (ok := fun _ => True) (okp := fun _ => True) ?hr ?hp (fun _ hk => hk) trivial (Below.refl _ _) (Nat.le_refl _) (by simp) ?_; (case hd => rfl); (case hg => first | rfl | exact wanted_on rfl rfl rfl (by first | assumption | rfl | (simp [*]; done))); (case hr => first | (go_simp; done) | (go_simp; rfl)); (case hp => exact (Reps.one (show Kd.M (Kd.int .i64) _ _ _ 1 [.int .i64 1] from rfl) (Reps.one (show Kd.M (Kd.int .i64) _ _ _ 2 [.int .i64 2] from rfl) (Reps.one (show Kd.M (Kd.int .i64) _ _ _ 3 [.int .i64 3] from rfl) (Reps.one (show Kd.M (Kd.int .i64) _ _ _ 4 [.int .i64 4] from rfl) (Reps.none _ _)))))); intro v108 w21 ho22 hb hg_ hnew_; clear hg_ hnew_; (first | rw [← Ny107.out] at ho22 | (simp only [Int.reduceToNat] at ho22; rw [← Ny107.out] at ho22)); have n0_ := Aside0.mk (Kd.R_lower ho22 (below_size (by repeat (first | (with_reducible first | exact HB.out | apply below_alloc | apply pw_below_drewN | apply below_drew1) | exact HB.out)))); have n1_ := Aside0.mk (below_step (by repeat (first | (with_reducible first | exact HB.out | apply below_alloc | apply pw_below_drewN | apply below_drew1) | exact HB.out)) hb); clear HB; have HO109 := n0_; have HB := n1_; clear n0_ n1_; clear hb ho22; obtain ⟨Ao23, co23, eo23⟩ := Kd.R_slice HO109.out; subst eo23) | ((with_reducible refine gate_callee (f := 15) rfl ?_); refine goesL_ (some 3) rfl rfl Tryd.func15 (by kernel_rfl) rfl #[.slice Ao23 y107.length co23, .int .i64 1] rfl (by (try simp only [List.map_toArray, List.map_cons, List.map_nil]); first | done | rfl | (simp only [List.length_drop, List.length_take]; rfl)) ?_; (with_reducible refine (spin_Turn.calls _ _ y107 1 t110 _ ?side1 ?side2 A1.out).mono ?_); (case side1 => repeat (first | exact (Kd.R_reads' HO109.out).2.2 | (with_reducible refine Kd.C_alloc ?_ _) | (with_reducible refine Kd.C_drewN ?_ _) | (with_reducible refine Kd.C_drew ?_))); (case side2 => exact (Kd.R_reads' HO109.out).2.1); rintro e w24 ⟨v111, rfl, ho0, hb⟩; refine ⟨_, rfl, ?_⟩; have n0_ := Aside0.mk (Kd.R_elder' (by (with_reducible repeat (first | apply Kd.R_alloc | apply Kd.R_drewN | apply Kd.R_drew)); (first | exact HO109.out | exact Kd.R_mono HO109.out (fun _ _ => trivial) | exact Kd.R_mono HO109.out (fun _ hk => hk.1))) (Kd.R_base ho0) hb); have n1_ := Aside0.mk (Kd.R_lower (Kd.R_new' ho0 (Kd.R_lt (by (with_reducible repeat (first | apply Kd.R_alloc | apply Kd.R_drewN | apply Kd.R_drew)); (first | exact HO109.out | exact Kd.R_mono HO109.out (fun _ _ => trivial) | exact Kd.R_mono HO109.out (fun _ hk => hk.1))))) (below_size (by repeat (first | (with_reducible first | exact HB.out | apply below_alloc | apply pw_below_drewN | apply below_drew1) | exact HB.out)))); have n2_ := Aside0.mk (below_step (by repeat (first | (with_reducible first | exact HB.out | apply below_alloc | apply pw_below_drewN | apply below_drew1) | exact HB.out)) hb); clear HO109; clear HB; have HO109 := n0_; have HO112 := n1_; have HB := n2_; clear n0_ n1_ n2_; (try clear hb); (try clear hb2); (try clear hk); (try clear hi); (try clear ho0)) | ((with_reducible refine gate_dst (N := 4) rfl ?_); (try (refine gate_guard (by rfl) ?_; dsimp only)); refine Kd.R_lit (Kd.int .i64) _ 3 ?hg (N := 4) ?hd (xs := ([(-4), 1, 2, 3] : List Int)) (inner := [.int .i64 (-4), .int .i64 1, .int .i64 2, .int .i64 3]) (ok := fun _ => True) (okp := fun _ => True) ?hr ?hp (fun _ hk => hk) trivial (Below.refl _ _) (Nat.le_refl _) (by simp) ?_; (case hd => rfl); (case hg => first | rfl | exact wanted_on rfl rfl rfl (by first | assumption | rfl | (simp [*]; done))); (case hr => first | (go_simp; done) | (go_simp; rfl)); (case hp => exact (Reps.one (show Kd.M (Kd.int .i64) _ _ _ (-4) [.int .i64 (-4)] from rfl) (Reps.one (show Kd.M (Kd.int .i64) _ _ _ 1 [.int .i64 1] from rfl) (Reps.one (show Kd.M (Kd.int .i64) _ _ _ 2 [.int .i64 2] from rfl) (Reps.one (show Kd.M (Kd.int .i64) _ _ _ 3 [.int .i64 3] from rfl) (Reps.none _ _)))))); intro v114 w25 ho26 hb hg_ hnew_; clear hg_ hnew_; (first | rw [← Ny113.out] at ho26 | (simp only [Int.reduceToNat] at ho26; rw [← Ny113.out] at ho26)); have n0_ := Aside0.mk (Kd.R_elder' (by (with_reducible repeat (first | apply Kd.R_alloc | apply Kd.R_drewN | apply Kd.R_drew)); (first | exact HO109.out | exact Kd.R_mono HO109.out (fun _ _ => trivial) | exact Kd.R_mono HO109.out (fun _ hk => hk.1))) (Kd.R_base ho26) hb); have n1_ := Aside0.mk (Kd.R_elder' (by (with_reducible repeat (first | apply Kd.R_alloc | apply Kd.R_drewN | apply Kd.R_drew)); (first | exact HO112.out | exact Kd.R_mono HO112.out (fun _ _ => trivial) | exact Kd.R_mono HO112.out (fun _ hk => hk.1))) (Kd.R_base ho26) hb); have n2_ := Aside0.mk (Kd.R_lower (Kd.R_new' (Kd.R_new' ho26 (Kd.R_lt (by (with_reducible repeat (first | apply Kd.R_alloc | apply Kd.R_drewN | apply Kd.R_drew)); (first | exact HO109.out | exact Kd.R_mono HO109.out (fun _ _ => trivial) | exact Kd.R_mono HO109.out (fun _ hk => hk.1))))) (Kd.R_lt (by (with_reducible repeat (first | apply Kd.R_alloc | apply Kd.R_drewN | apply Kd.R_drew)); (first | exact HO112.out | exact Kd.R_mono HO112.out (fun _ _ => trivial) | exact Kd.R_mono HO112.out (fun _ hk => hk.1))))) (below_size (by repeat (first | (with_reducible first | exact HB.out | apply below_alloc | apply pw_below_drewN | apply below_drew1) | exact HB.out)))); have n3_ := Aside0.mk (below_step (by repeat (first | (with_reducible first | exact HB.out | apply below_alloc | apply pw_below_drewN | apply below_drew1) | exact HB.out)) hb); clear HO109; clear HO112; clear HB; have HO109 := n0_; have HO112 := n1_; have HO115 := n2_; have HB := n3_; clear n0_ n1_ n2_ n3_; clear hb ho26; obtain ⟨Ao27, co27, eo27⟩ := Kd.R_slice HO112.out; subst eo27; obtain ⟨Ao28, co28, eo28⟩ := Kd.R_slice HO115.out; subst eo28) | ((with_reducible refine gate_callee (f := 19) rfl ?_); refine goesL_ (some 5) rfl rfl Tryd.func19 (by kernel_rfl) rfl #[.slice Ao27 t110.length co27, .slice Ao28 y113.length co28] rfl (by (try simp only [List.map_toArray, List.map_cons, List.map_nil]); first | done | rfl | (simp only [List.length_drop, List.length_take]; rfl)) ?_; (with_reducible refine (earshotref04_Same.calls k _ _ t110 _ _ y113 true _ ?side1 ?side2 ?side3 ?side4 A2.out).mono ?_); (case side1 => repeat (first | exact (Kd.R_reads' HO112.out).2.2 | (with_reducible refine Kd.C_alloc ?_ _) | (with_reducible refine Kd.C_drewN ?_ _) | (with_reducible refine Kd.C_drew ?_))); (case side2 => exact (Kd.R_reads' HO112.out).2.1); (case side3 => repeat (first | exact (Kd.R_reads' HO115.out).2.2 | (with_reducible refine Kd.C_alloc ?_ _) | (with_reducible refine Kd.C_drewN ?_ _) | (with_reducible refine Kd.C_drew ?_))); (case side4 => exact (Kd.R_reads' HO115.out).2.1); rintro e w' ⟨rfl, ⟨nd, rfl⟩⟩; refine ⟨_, rfl, ?_⟩) | ((with_reducible refine gate_dst (N := 8) rfl ?_); (try (refine gate_guard (by rfl) ?_; dsimp only)); refine Kd.R_lit (Kd.int .i64) _ 3 ?hg (N := 8) ?hd (xs := ([0, 1] : List Int)) (inner := [.int .i64 0, .int .i64 1]) (ok := fun _ => True) (okp := fun _ => True) ?hr ?hp (fun _ hk => hk) trivial (Below.refl _ _) (Nat.le_refl _) (by simp) ?_; (case hd => rfl); (case hg => first | rfl | exact wanted_on rfl rfl rfl (by first | assumption | rfl | (simp [*]; done))); (case hr => first | (go_simp; done) | (go_simp; rfl)); (case hp => exact (Reps.one (show Kd.M (Kd.int .i64) _ _ _ 0 [.int .i64 0] from rfl) (Reps.one (show Kd.M (Kd.int .i64) _ _ _ 1 [.int .i64 1] from rfl) (Reps.none _ _)))); intro v118 w29 ho30 hb hg_ hnew_; clear hg_ hnew_; (first | rw [← Ny117.out] at ho30 | (simp only [Int.reduceToNat] at ho30; rw [← Ny117.out] at ho30)); have n0_ := Aside0.mk (Kd.R_elder' (by (with_reducible repeat (first | apply Kd.R_alloc | apply Kd.R_drewN | apply Kd.R_drew)); (first | exact HO109.out | exact Kd.R_mono HO109.out (fun _ _ => trivial) | exact Kd.R_mono HO109.out (fun _ hk => hk.1))) (Kd.R_base ho30) hb); have n1_ := Aside0.mk (Kd.R_elder' (by (with_reducible repeat (first | apply Kd.R_alloc | apply Kd.R_drewN | apply Kd.R_drew)); (first | exact HO112.out | exact Kd.R_mono HO112.out (fun _ _ => trivial) | exact Kd.R_mono HO112.out (fun _ hk => hk.1))) (Kd.R_base ho30) hb); have n2_ := Aside0.mk (Kd.R_elder' (by (with_reducible repeat (first | apply Kd.R_alloc | apply Kd.R_drewN | apply Kd.R_drew)); (first | exact HO115.out | exact Kd.R_mono HO115.out (fun _ _ => trivial) | exact Kd.R_mono HO115.out (fun _ hk => hk.1))) (Kd.R_base ho30) hb); have n3_ := Aside0.mk (Kd.R_lower (Kd.R_new' (Kd.R_new' (Kd.R_new' ho30 (Kd.R_lt (by (with_reducible repeat (first | apply Kd.R_alloc | apply Kd.R_drewN | apply Kd.R_drew)); (first | exact HO109.out | exact Kd.R_mono HO109.out (fun _ _ => trivial) | exact Kd.R_mono HO109.out (fun _ hk => hk.1))))) (Kd.R_lt (by (with_reducible repeat (first | apply Kd.R_alloc | apply Kd.R_drewN | apply Kd.R_drew)); (first | exact HO112.out | exact Kd.R_mono HO112.out (fun _ _ => trivial) | exact Kd.R_mono HO112.out (fun _ hk => hk.1))))) (Kd.R_lt (by (with_reducible repeat (first | apply Kd.R_alloc | apply Kd.R_drewN | apply Kd.R_drew)); (first | exact HO115.out | exact Kd.R_mono HO115.out (fun _ _ => trivial) | exact Kd.R_mono HO115.out (fun _ hk => hk.1))))) (below_size (by repeat (first | (with_reducible first | exact HB.out | apply below_alloc | apply pw_below_drewN | apply below_drew1) | exact HB.out)))); have n4_ := Aside0.mk (below_step (by repeat (first | (with_reducible first | exact HB.out | apply below_alloc | apply pw_below_drewN | apply below_drew1) | exact HB.out)) hb); clear HO109; clear HO112; clear HO115; clear HB; have HO109 := n0_; have HO112 := n1_; have HO115 := n2_; have HO119 := n3_; have HB := n4_; clear n0_ n1_ n2_ n3_ n4_; clear hb ho30; obtain ⟨Ao31, co31, eo31⟩ := Kd.R_slice HO119.out; subst eo31) | (go_at_call 16; (with_reducible refine (spin_Real.calls _ _ y117 t120 _ ?side1 ?side2 ?side3 A4.out).mono ?_); (case side1 => exact GlobA.below HG.out (by repeat (first | (with_reducible first | exact HB.out | apply below_alloc | apply pw_below_drewN | apply below_drew1) | exact HB.out))); (case side2 => repeat (first | exact (Kd.R_reads' HO119.out).2.2 | (with_reducible refine Kd.C_alloc ?_ _) | (with_reducible refine Kd.C_drewN ?_ _) | (with_reducible refine Kd.C_drew ?_))); (case side3 => exact (Kd.R_reads' HO119.out).2.1); rintro e w' ⟨rfl, ⟨nd, rfl⟩⟩))
      go_ret
      exact ⟨by first | rfl | (simp [errW_none, errW_some] <;> rfl) | (simp [*, errW_none, errW_some] <;> rfl), by repeat (first | (with_reducible first | exact HB.out | apply below_alloc | apply pw_below_drewN | apply below_drew1) | exact HB.out)⟩
  · replace c3 := Bool.eq_false_iff.mpr c3
    subst c3
    have H1 : (some false) = some r := by rw [if_neg (show ¬ (false = true) by decide)] at H; exact H
    clear H
    have H := H1
    clear H1
    obtain rfl := Option.some.inj H
    go_enter Tryd.func13, Tryd.ntmps13
    go_wp2_with (first | ((with_reducible refine gate_dst (N := 2) rfl ?_); (try (refine gate_guard (by rfl) ?_; dsimp only)); refine Kd.R_lit (Kd.int .i64) _ 3 ?hg (N := 2) ?hd (xs := ([1, 2, 3, 4] : List Int)) (inner := [.int .i64 1, .int .i64 2, .int .i64 3, .int .i64 4]) (ok := fun _ => True) (okp := fun _ => True) ?hr ?hp (fun _ hk => hk) trivial (Below.refl _ _) (Nat.le_refl _) (by simp) ?_; (case hd => rfl); (case hg => first | rfl | exact wanted_on rfl rfl rfl (by first | assumption | rfl | (simp [*]; done))); (case hr => first | (go_simp; done) | (go_simp; rfl)); (case hp => exact (Reps.one (show Kd.M (Kd.int .i64) _ _ _ 1 [.int .i64 1] from rfl) (Reps.one (show Kd.M (Kd.int .i64) _ _ _ 2 [.int .i64 2] from rfl) (Reps.one (show Kd.M (Kd.int .i64) _ _ _ 3 [.int .i64 3] from rfl) (Reps.one (show Kd.M (Kd.int .i64) _ _ _ 4 [.int .i64 4] from rfl) (Reps.none _ _)))))); intro v108 w32 ho33 hb hg_ hnew_; clear hg_ hnew_; (first | rw [← Ny107.out] at ho33 | (simp only [Int.reduceToNat] at ho33; rw [← Ny107.out] at ho33)); have n0_ := Aside0.mk (Kd.R_lower ho33 (below_size (by repeat (first | (with_reducible first | exact HB.out | apply below_alloc | apply pw_below_drewN | apply below_drew1) | exact HB.out)))); have n1_ := Aside0.mk (below_step (by repeat (first | (with_reducible first | exact HB.out | apply below_alloc | apply pw_below_drewN | apply below_drew1) | exact HB.out)) hb); clear HB; have HO109 := n0_; have HB := n1_; clear n0_ n1_; clear hb ho33; obtain ⟨Ao34, co34, eo34⟩ := Kd.R_slice HO109.out; subst eo34) | ((with_reducible refine gate_callee (f := 15) rfl ?_); refine goesL_ (some 3) rfl rfl Tryd.func15 (by kernel_rfl) rfl #[.slice Ao34 y107.length co34, .int .i64 1] rfl (by (try simp only [List.map_toArray, List.map_cons, List.map_nil]); first | done | rfl | (simp only [List.length_drop, List.length_take]; rfl)) ?_; (with_reducible refine (spin_Turn.calls _ _ y107 1 t110 _ ?side1 ?side2 A1.out).mono ?_); (case side1 => repeat (first | exact (Kd.R_reads' HO109.out).2.2 | (with_reducible refine Kd.C_alloc ?_ _) | (with_reducible refine Kd.C_drewN ?_ _) | (with_reducible refine Kd.C_drew ?_))); (case side2 => exact (Kd.R_reads' HO109.out).2.1); rintro e w35 ⟨v111, rfl, ho0, hb⟩; refine ⟨_, rfl, ?_⟩; have n0_ := Aside0.mk (Kd.R_elder' (by (with_reducible repeat (first | apply Kd.R_alloc | apply Kd.R_drewN | apply Kd.R_drew)); (first | exact HO109.out | exact Kd.R_mono HO109.out (fun _ _ => trivial) | exact Kd.R_mono HO109.out (fun _ hk => hk.1))) (Kd.R_base ho0) hb); have n1_ := Aside0.mk (Kd.R_lower (Kd.R_new' ho0 (Kd.R_lt (by (with_reducible repeat (first | apply Kd.R_alloc | apply Kd.R_drewN | apply Kd.R_drew)); (first | exact HO109.out | exact Kd.R_mono HO109.out (fun _ _ => trivial) | exact Kd.R_mono HO109.out (fun _ hk => hk.1))))) (below_size (by repeat (first | (with_reducible first | exact HB.out | apply below_alloc | apply pw_below_drewN | apply below_drew1) | exact HB.out)))); have n2_ := Aside0.mk (below_step (by repeat (first | (with_reducible first | exact HB.out | apply below_alloc | apply pw_below_drewN | apply below_drew1) | exact HB.out)) hb); clear HO109; clear HB; have HO109 := n0_; have HO112 := n1_; have HB := n2_; clear n0_ n1_ n2_; (try clear hb); (try clear hb2); (try clear hk); (try clear hi); (try clear ho0)) | ((with_reducible refine gate_dst (N := 4) rfl ?_); (try (refine gate_guard (by rfl) ?_; dsimp only)); refine Kd.R_lit (Kd.int .i64) _ 3 ?hg (N := 4) ?hd (xs := ([(-4), 1, 2, 3] : List Int)) (inner := [.int .i64 (-4), .int .i64 1, .int .i64 2, .int .i64 3]) (ok := fun _ => True) (okp := fun _ => True) ?hr ?hp (fun _ hk => hk) trivial (Below.refl _ _) (Nat.le_refl _) (by simp) ?_; (case hd => rfl); (case hg => first | rfl | exact wanted_on rfl rfl rfl (by first | assumption | rfl | (simp [*]; done))); (case hr => first | (go_simp; done) | (go_simp; rfl)); (case hp => exact (Reps.one (show Kd.M (Kd.int .i64) _ _ _ (-4) [.int .i64 (-4)] from rfl) (Reps.one (show Kd.M (Kd.int .i64) _ _ _ 1 [.int .i64 1] from rfl) (Reps.one (show Kd.M (Kd.int .i64) _ _ _ 2 [.int .i64 2] from rfl) (Reps.one (show Kd.M (Kd.int .i64) _ _ _ 3 [.int .i64 3] from rfl) (Reps.none _ _)))))); intro v114 w36 ho37 hb hg_ hnew_; clear hg_ hnew_; (first | rw [← Ny113.out] at ho37 | (simp only [Int.reduceToNat] at ho37; rw [← Ny113.out] at ho37)); have n0_ := Aside0.mk (Kd.R_elder' (by (with_reducible repeat (first | apply Kd.R_alloc | apply Kd.R_drewN | apply Kd.R_drew)); (first | exact HO109.out | exact Kd.R_mono HO109.out (fun _ _ => trivial) | exact Kd.R_mono HO109.out (fun _ hk => hk.1))) (Kd.R_base ho37) hb); have n1_ := Aside0.mk (Kd.R_elder' (by (with_reducible repeat (first | apply Kd.R_alloc | apply Kd.R_drewN | apply Kd.R_drew)); (first | exact HO112.out | exact Kd.R_mono HO112.out (fun _ _ => trivial) | exact Kd.R_mono HO112.out (fun _ hk => hk.1))) (Kd.R_base ho37) hb); have n2_ := Aside0.mk (Kd.R_lower (Kd.R_new' (Kd.R_new' ho37 (Kd.R_lt (by (with_reducible repeat (first | apply Kd.R_alloc | apply Kd.R_drewN | apply Kd.R_drew)); (first | exact HO109.out | exact Kd.R_mono HO109.out (fun _ _ => trivial) | exact Kd.R_mono HO109.out (fun _ hk => hk.1))))) (Kd.R_lt (by (with_reducible repeat (first | apply Kd.R_alloc | apply Kd.R_drewN | apply Kd.R_drew)); (first | exact HO112.out | exact Kd.R_mono HO112.out (fun _ _ => trivial) | exact Kd.R_mono HO112.out (fun _ hk => hk.1))))) (below_size (by repeat (first | (with_reducible first | exact HB.out | apply below_alloc | apply pw_below_drewN | apply below_drew1) | exact HB.out)))); have n3_ := Aside0.mk (below_step (by repeat (first | (with_reducible first | exact HB.out | apply below_alloc | apply pw_below_drewN | apply below_drew1) | exact HB.out)) hb); clear HO109; clear HO112; clear HB; have HO109 := n0_; have HO112 := n1_; have HO115 := n2_; have HB := n3_; clear n0_ n1_ n2_ n3_; clear hb ho37; obtain ⟨Ao38, co38, eo38⟩ := Kd.R_slice HO112.out; subst eo38; obtain ⟨Ao39, co39, eo39⟩ := Kd.R_slice HO115.out; subst eo39) | ((with_reducible refine gate_callee (f := 19) rfl ?_); refine goesL_ (some 5) rfl rfl Tryd.func19 (by kernel_rfl) rfl #[.slice Ao38 t110.length co38, .slice Ao39 y113.length co39] rfl (by (try simp only [List.map_toArray, List.map_cons, List.map_nil]); first | done | rfl | (simp only [List.length_drop, List.length_take]; rfl)) ?_; (with_reducible refine (earshotref04_Same.calls k _ _ t110 _ _ y113 false _ ?side1 ?side2 ?side3 ?side4 A2.out).mono ?_); (case side1 => repeat (first | exact (Kd.R_reads' HO112.out).2.2 | (with_reducible refine Kd.C_alloc ?_ _) | (with_reducible refine Kd.C_drewN ?_ _) | (with_reducible refine Kd.C_drew ?_))); (case side2 => exact (Kd.R_reads' HO112.out).2.1); (case side3 => repeat (first | exact (Kd.R_reads' HO115.out).2.2 | (with_reducible refine Kd.C_alloc ?_ _) | (with_reducible refine Kd.C_drewN ?_ _) | (with_reducible refine Kd.C_drew ?_))); (case side4 => exact (Kd.R_reads' HO115.out).2.1); rintro e w' ⟨rfl, ⟨nd, rfl⟩⟩; refine ⟨_, rfl, ?_⟩))
    go_ret
    exact ⟨by first | rfl | (simp [errW_none, errW_some] <;> rfl) | (simp [*, errW_none, errW_some] <;> rfl), by repeat (first | (with_reducible first | exact HB.out | apply below_alloc | apply pw_below_drewN | apply below_drew1) | exact HB.out)⟩

/-! ### earshotlaw09_few: function 18 -/
def earshotlaw09_few.f (l0 : List Int) : Option (List Int) := some (l0.take 40)
theorem few_go (A0 : Option Addr) (n c0 : Nat) (w : World) (hn : n ≤ c0) : Calls Tryd.prog 18 #[.slice A0 n c0] w fun e w' => e = .returned (.slice A0 (min 40 n) c0) ∧ w = w' := by
  by_cases h : 40 < n
  · have hc : 40 ≤ c0 := by omega
    have e : min 40 n = 40 := by omega
    rw [e]
    clear e
    go_enter Tryd.func18, Tryd.ntmps18
    go_wp2
    go_ret
    exact ⟨rfl, rfl⟩
  · have e : min 40 n = n := by omega
    rw [e]
    have h' : n ≤ 40 := by omega
    clear e h
    go_enter Tryd.func18, Tryd.ntmps18
    go_wp2
    go_ret
    exact ⟨rfl, rfl⟩

-- NOT PRINTED: function 37 (spin_each_int)

-- NOT PRINTED: function 38 (spin_Add_1)

end Go.Proofs.YtphmfecabbellaaDoor.PSpinSizes
