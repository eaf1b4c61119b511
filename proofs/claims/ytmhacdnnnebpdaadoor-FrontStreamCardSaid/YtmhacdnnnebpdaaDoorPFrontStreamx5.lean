-- Written by a program of this work (wip/tools) for this claim; Lean checks it.
import Derived.Test.YtmhacdnnnebpdaaDoorPFrontStreamx4
namespace Go.Proofs.YtmhacdnnnebpdaaDoor.PFrontStream
open Go.RowKit Go.Proofs.YtmhacdnnnebpdaaDoorW.PrintWords Go.Proofs.YtmhacdnnnebpdaaDoorW.PrintLast Go.Proofs.YtmhacdnnnebpdaaDoorW.PrintMore
attribute [local go_sem] max2_int min2_int max_two min_two max_three min_three max_four min_four   -- for this text's walks alone
set_option linter.unusedVariables false
set_option linter.unusedSimpArgs false
theorem sp_sin {x : Int} (h0 : -9223372036854775808 ≤ x) (h1 : x ≤ 9223372036854775807) : circle_Sin.f x = some (sinT x) := by
 unfold circle_Sin.f
 have m0 := Int.emod_nonneg x (show (64 : Int) ≠ 0 by decide)
 have m1 := Int.emod_lt_of_pos x (show (0 : Int) < 64 by decide)
 rw [rest_some (by simp [ci64b, h0, h1]), Option.bind_some, show wrap64 (x % 64 - 16) = x % 64 - 16 by unfold wrap64; omega, sp_cos (by omega) (by omega)]
 rfl
set_option maxHeartbeats 16000000 in
theorem sum_sin (A0 : Option Addr) (h c0 : Nat) (l0 : List Int) (w : World) (hG : GlobA w) (hl : l0.length = h) (hr0 : Kd.C (Kd.int .i64) w A0 h l0) (hh : h ≤ 1000000) :
  Calls Tryd.prog 105 #[.slice A0 h c0, .func (.func 106) #[] #[]] w fun e w' => e = .returned (.int .i64 (sp_part l0 sinT)) ∧ Drawn0 w w' := by
 have HG := Aside0.mk hG
 have HC := Aside0.mk hr0
 clear hG hr0
 rcases Bool.eq_false_or_eq_true (sp_may h) with hm | hm
 ·
  have HV : Aside0 (sp_part l0 sinT = sp_sum l0 sinT (32 / h) h) := ⟨by unfold sp_part; rw [hl, if_pos hm]⟩
  have HL := Aside0.mk hl
  clear hl
  rcases sp_may_cases hm with rfl | rfl | rfl | rfl | rfl | rfl
  ·
   clear hm hh
   go_enter Tryd.func105, Tryd.ntmps105
   go_wp2
   go_loopw [6, 26] (fun v6 v wr => ∃ (i : Nat), i ≤ 1 ∧ v = .int .i64 (i : Int) ∧ v6 = .int .i64 (sp_sum l0 sinT (32 / 1) i) ∧ Aside0 (∃ k, wr = w.drewN k)) (fun _ v _ => 1 - (intOf v).toNat)
   case atStart => exact ⟨0, by omega, rfl, rfl, ⟨⟨0, rfl⟩⟩⟩
   case round =>
    obtain ⟨i, hi, rfl, rfl, HK⟩ := hrel
    obtain ⟨k, rfl⟩ := HK.out
    by_cases hlt : i < 1
    ·
     obtain ⟨ad, rfl, hcs⟩ := sp_ad HC.out (by omega)
     have hcell := sp_cell HC.out i hlt
     obtain ⟨x, hx⟩ : ∃ x, l0.getD i 0 = x := ⟨_, rfl⟩
     rw [hx] at hcell
     obtain ⟨s, hs⟩ : ∃ s, sp_sum l0 sinT (32 / 1) i = s := ⟨_, rfl⟩
     have HN : Aside0 (sp_sum l0 sinT (32 / 1) (i + 1) = wrap64 (s + wrap64 (x * sinT ((i : Int) * 32)))) := ⟨by rw [sp_sum, hs, hx]; rfl⟩
     have HF : Aside0 (circle_Sin.f ((i : Int) * 32) = some (sinT ((i : Int) * 32))) := ⟨sp_sin (by omega) (by omega)⟩
     clear hcs hx
     rw [hs]
     clear hs
     go_wp2_with (go_at_call 106; (with_reducible refine (circle_Sin.calls _ _ _ (HG.out.drewN _) HF.out).mono ?_); rintro e w' ⟨rfl, ⟨nd, rfl⟩⟩)
     go_roundw
     case rel => exact ⟨i + 1, by omega, by go_num, by rw [HN.out], ⟨⟨_, rfl⟩⟩⟩
     case measure => simp [intOf]; omega
    ·
     obtain rfl : i = 1 := by omega
     go_wp2
     go_ret
     exact ⟨by rw [HV.out]; rfl, ⟨⟨_, rfl⟩⟩⟩
  ·
   clear hm hh
   go_enter Tryd.func105, Tryd.ntmps105
   go_wp2
   go_loopw [6, 26] (fun v6 v wr => ∃ (i : Nat), i ≤ 2 ∧ v = .int .i64 (i : Int) ∧ v6 = .int .i64 (sp_sum l0 sinT (32 / 2) i) ∧ Aside0 (∃ k, wr = w.drewN k)) (fun _ v _ => 2 - (intOf v).toNat)
   case atStart => exact ⟨0, by omega, rfl, rfl, ⟨⟨0, rfl⟩⟩⟩
   case round =>
    obtain ⟨i, hi, rfl, rfl, HK⟩ := hrel
    obtain ⟨k, rfl⟩ := HK.out
    by_cases hlt : i < 2
    ·
     obtain ⟨ad, rfl, hcs⟩ := sp_ad HC.out (by omega)
     have hcell := sp_cell HC.out i hlt
     obtain ⟨x, hx⟩ : ∃ x, l0.getD i 0 = x := ⟨_, rfl⟩
     rw [hx] at hcell
     obtain ⟨s, hs⟩ : ∃ s, sp_sum l0 sinT (32 / 2) i = s := ⟨_, rfl⟩
     have HN : Aside0 (sp_sum l0 sinT (32 / 2) (i + 1) = wrap64 (s + wrap64 (x * sinT ((i : Int) * 16)))) := ⟨by rw [sp_sum, hs, hx]; rfl⟩
     have HF : Aside0 (circle_Sin.f ((i : Int) * 16) = some (sinT ((i : Int) * 16))) := ⟨sp_sin (by omega) (by omega)⟩
     clear hcs hx
     rw [hs]
     clear hs
     go_wp2_with (go_at_call 106; (with_reducible refine (circle_Sin.calls _ _ _ (HG.out.drewN _) HF.out).mono ?_); rintro e w' ⟨rfl, ⟨nd, rfl⟩⟩)
     go_roundw
     case rel => exact ⟨i + 1, by omega, by go_num, by rw [HN.out], ⟨⟨_, rfl⟩⟩⟩
     case measure => simp [intOf]; omega
    ·
     obtain rfl : i = 2 := by omega
     go_wp2
     go_ret
     exact ⟨by rw [HV.out]; rfl, ⟨⟨_, rfl⟩⟩⟩
  ·
   clear hm hh
   go_enter Tryd.func105, Tryd.ntmps105
   go_wp2
   go_loopw [6, 26] (fun v6 v wr => ∃ (i : Nat), i ≤ 4 ∧ v = .int .i64 (i : Int) ∧ v6 = .int .i64 (sp_sum l0 sinT (32 / 4) i) ∧ Aside0 (∃ k, wr = w.drewN k)) (fun _ v _ => 4 - (intOf v).toNat)
   case atStart => exact ⟨0, by omega, rfl, rfl, ⟨⟨0, rfl⟩⟩⟩
   case round =>
    obtain ⟨i, hi, rfl, rfl, HK⟩ := hrel
    obtain ⟨k, rfl⟩ := HK.out
    by_cases hlt : i < 4
    ·
     obtain ⟨ad, rfl, hcs⟩ := sp_ad HC.out (by omega)
     have hcell := sp_cell HC.out i hlt
     obtain ⟨x, hx⟩ : ∃ x, l0.getD i 0 = x := ⟨_, rfl⟩
     rw [hx] at hcell
     obtain ⟨s, hs⟩ : ∃ s, sp_sum l0 sinT (32 / 4) i = s := ⟨_, rfl⟩
     have HN : Aside0 (sp_sum l0 sinT (32 / 4) (i + 1) = wrap64 (s + wrap64 (x * sinT ((i : Int) * 8)))) := ⟨by rw [sp_sum, hs, hx]; rfl⟩
     have HF : Aside0 (circle_Sin.f ((i : Int) * 8) = some (sinT ((i : Int) * 8))) := ⟨sp_sin (by omega) (by omega)⟩
     clear hcs hx
     rw [hs]
     clear hs
     go_wp2_with (go_at_call 106; (with_reducible refine (circle_Sin.calls _ _ _ (HG.out.drewN _) HF.out).mono ?_); rintro e w' ⟨rfl, ⟨nd, rfl⟩⟩)
     go_roundw
     case rel => exact ⟨i + 1, by omega, by go_num, by rw [HN.out], ⟨⟨_, rfl⟩⟩⟩
     case measure => simp [intOf]; omega
    ·
     obtain rfl : i = 4 := by omega
     go_wp2
     go_ret
     exact ⟨by rw [HV.out]; rfl, ⟨⟨_, rfl⟩⟩⟩
  ·
   clear hm hh
   go_enter Tryd.func105, Tryd.ntmps105
   go_wp2
   go_loopw [6, 26] (fun v6 v wr => ∃ (i : Nat), i ≤ 8 ∧ v = .int .i64 (i : Int) ∧ v6 = .int .i64 (sp_sum l0 sinT (32 / 8) i) ∧ Aside0 (∃ k, wr = w.drewN k)) (fun _ v _ => 8 - (intOf v).toNat)
   case atStart => exact ⟨0, by omega, rfl, rfl, ⟨⟨0, rfl⟩⟩⟩
   case round =>
    obtain ⟨i, hi, rfl, rfl, HK⟩ := hrel
    obtain ⟨k, rfl⟩ := HK.out
    by_cases hlt : i < 8
    ·
     obtain ⟨ad, rfl, hcs⟩ := sp_ad HC.out (by omega)
     have hcell := sp_cell HC.out i hlt
     obtain ⟨x, hx⟩ : ∃ x, l0.getD i 0 = x := ⟨_, rfl⟩
     rw [hx] at hcell
     obtain ⟨s, hs⟩ : ∃ s, sp_sum l0 sinT (32 / 8) i = s := ⟨_, rfl⟩
     have HN : Aside0 (sp_sum l0 sinT (32 / 8) (i + 1) = wrap64 (s + wrap64 (x * sinT ((i : Int) * 4)))) := ⟨by rw [sp_sum, hs, hx]; rfl⟩
     have HF : Aside0 (circle_Sin.f ((i : Int) * 4) = some (sinT ((i : Int) * 4))) := ⟨sp_sin (by omega) (by omega)⟩
     clear hcs hx
     rw [hs]
     clear hs
     go_wp2_with (go_at_call 106; (with_reducible refine (circle_Sin.calls _ _ _ (HG.out.drewN _) HF.out).mono ?_); rintro e w' ⟨rfl, ⟨nd, rfl⟩⟩)
     go_roundw
     case rel => exact ⟨i + 1, by omega, by go_num, by rw [HN.out], ⟨⟨_, rfl⟩⟩⟩
     case measure => simp [intOf]; omega
    ·
     obtain rfl : i = 8 := by omega
     go_wp2
     go_ret
     exact ⟨by rw [HV.out]; rfl, ⟨⟨_, rfl⟩⟩⟩
  ·
   clear hm hh
   go_enter Tryd.func105, Tryd.ntmps105
   go_wp2
   go_loopw [6, 26] (fun v6 v wr => ∃ (i : Nat), i ≤ 16 ∧ v = .int .i64 (i : Int) ∧ v6 = .int .i64 (sp_sum l0 sinT (32 / 16) i) ∧ Aside0 (∃ k, wr = w.drewN k)) (fun _ v _ => 16 - (intOf v).toNat)
   case atStart => exact ⟨0, by omega, rfl, rfl, ⟨⟨0, rfl⟩⟩⟩
   case round =>
    obtain ⟨i, hi, rfl, rfl, HK⟩ := hrel
    obtain ⟨k, rfl⟩ := HK.out
    by_cases hlt : i < 16
    ·
     obtain ⟨ad, rfl, hcs⟩ := sp_ad HC.out (by omega)
     have hcell := sp_cell HC.out i hlt
     obtain ⟨x, hx⟩ : ∃ x, l0.getD i 0 = x := ⟨_, rfl⟩
     rw [hx] at hcell
     obtain ⟨s, hs⟩ : ∃ s, sp_sum l0 sinT (32 / 16) i = s := ⟨_, rfl⟩
     have HN : Aside0 (sp_sum l0 sinT (32 / 16) (i + 1) = wrap64 (s + wrap64 (x * sinT ((i : Int) * 2)))) := ⟨by rw [sp_sum, hs, hx]; rfl⟩
     have HF : Aside0 (circle_Sin.f ((i : Int) * 2) = some (sinT ((i : Int) * 2))) := ⟨sp_sin (by omega) (by omega)⟩
     clear hcs hx
     rw [hs]
     clear hs
     go_wp2_with (go_at_call 106; (with_reducible refine (circle_Sin.calls _ _ _ (HG.out.drewN _) HF.out).mono ?_); rintro e w' ⟨rfl, ⟨nd, rfl⟩⟩)
     go_roundw
     case rel => exact ⟨i + 1, by omega, by go_num, by rw [HN.out], ⟨⟨_, rfl⟩⟩⟩
     case measure => simp [intOf]; omega
    ·
     obtain rfl : i = 16 := by omega
     go_wp2
     go_ret
     exact ⟨by rw [HV.out]; rfl, ⟨⟨_, rfl⟩⟩⟩
  ·
   clear hm hh
   go_enter Tryd.func105, Tryd.ntmps105
   go_wp2
   go_loopw [6, 26] (fun v6 v wr => ∃ (i : Nat), i ≤ 32 ∧ v = .int .i64 (i : Int) ∧ v6 = .int .i64 (sp_sum l0 sinT (32 / 32) i) ∧ Aside0 (∃ k, wr = w.drewN k)) (fun _ v _ => 32 - (intOf v).toNat)
   case atStart => exact ⟨0, by omega, rfl, rfl, ⟨⟨0, rfl⟩⟩⟩
   case round =>
    obtain ⟨i, hi, rfl, rfl, HK⟩ := hrel
    obtain ⟨k, rfl⟩ := HK.out
    by_cases hlt : i < 32
    ·
     obtain ⟨ad, rfl, hcs⟩ := sp_ad HC.out (by omega)
     have hcell := sp_cell HC.out i hlt
     obtain ⟨x, hx⟩ : ∃ x, l0.getD i 0 = x := ⟨_, rfl⟩
     rw [hx] at hcell
     obtain ⟨s, hs⟩ : ∃ s, sp_sum l0 sinT (32 / 32) i = s := ⟨_, rfl⟩
     have HN : Aside0 (sp_sum l0 sinT (32 / 32) (i + 1) = wrap64 (s + wrap64 (x * sinT (i : Int)))) := ⟨by rw [sp_sum, hs, hx, show ((32 / 32 : Nat) : Int) = 1 from rfl, Int.mul_one]⟩
     have HF : Aside0 (circle_Sin.f (i : Int) = some (sinT (i : Int))) := ⟨sp_sin (by omega) (by omega)⟩
     clear hcs hx
     rw [hs]
     clear hs
     go_wp2_with (go_at_call 106; (with_reducible refine (circle_Sin.calls _ _ _ (HG.out.drewN _) HF.out).mono ?_); rintro e w' ⟨rfl, ⟨nd, rfl⟩⟩)
     go_roundw
     case rel => exact ⟨i + 1, by omega, by go_num, by rw [HN.out], ⟨⟨_, rfl⟩⟩⟩
     case measure => simp [intOf]; omega
    ·
     obtain rfl : i = 32 := by omega
     go_wp2
     go_ret
     exact ⟨by rw [HV.out]; rfl, ⟨⟨_, rfl⟩⟩⟩
 ·
  have HV : Aside0 (sp_part l0 sinT = 0) := ⟨by unfold sp_part; rw [hl, if_neg (by rw [hm]; decide)]⟩
  have hcase : h = 0 ∨ 0 < h ∧ h ≤ 32 ∧ (Go.bits .and .i64 (h : Int) ((h : Int) - 1) != 0) = true ∨ 32 < h := by
   by_cases h1 : h ≤ 32
   ·
    rcases sp_mask ⟨h, by omega⟩ with h2 | h2 | h2
    · exact .inl h2
    · rw [hm] at h2; cases h2
    ·
     by_cases h3 : h = 0
     · exact .inl h3
     · exact .inr (.inl ⟨by omega, h1, h2⟩)
   · exact .inr (.inr (by omega))
  clear hl hm
  rcases hcase with rfl | ⟨h0, h1, h2⟩ | h1
  ·
   go_enter Tryd.func105, Tryd.ntmps105
   go_wp2
   go_ret
   exact ⟨by rw [HV.out]; rfl, ⟨⟨0, rfl⟩⟩⟩
  ·
   have hd : ((h : Int) == 0) = false := by simp; omega
   go_enter Tryd.func105, Tryd.ntmps105
   go_wp2
   go_ret
   exact ⟨by rw [HV.out]; rfl, ⟨⟨0, rfl⟩⟩⟩
  ·
   have hd : ((h : Int) == 0) = false := by simp; omega
   go_enter Tryd.func105, Tryd.ntmps105
   go_wp2
   all_goals
    go_ret
    exact ⟨by rw [HV.out]; rfl, ⟨⟨0, rfl⟩⟩⟩
def spin_Imag.f (l0 : List Int) : Option Int := if decide (l0.length ≤ 1000000) then some (wrap64 (-(sp_part l0 sinT))) else none
theorem imag_go (A0 : Option Addr) (h c0 : Nat) (l0 : List Int) (w : World) (hG : GlobA w) (hl : l0.length = h) (hr0 : Kd.C (Kd.int .i64) w A0 h l0) (hh : h ≤ 1000000) :
  Calls Tryd.prog 79 #[.slice A0 h c0] w fun e w' => e = .returned (.int .i64 (wrap64 (-(sp_part l0 sinT)))) ∧ Drawn0 w w' := by
 have HG := Aside0.mk hG
 have HC := Aside0.mk hr0
 have HL := Aside0.mk hl
 clear hG hr0 hl
 go_enter Tryd.func79, Tryd.ntmps79
 go_wp2_with (go_at_call 105; (with_reducible refine (sum_sin A0 h c0 l0 _ HG.out HL.out HC.out hh).mono ?_); rintro e w' ⟨rfl, ⟨nd, rfl⟩⟩)
 go_ret
 exact ⟨rfl, ⟨⟨_, rfl⟩⟩⟩
theorem spin_Imag.calls (A0 : Option Addr) (c0 : Nat) (l0 : List Int) (r : Int) (w : World) (hG : GlobA w) (hr0 : Kd.C (Kd.int .i64) w A0 l0.length l0) (hc0 : l0.length ≤ c0) (h : spin_Imag.f l0 = some r) :
  Calls Tryd.prog 79 #[.slice A0 l0.length c0] w fun e w' => e = .returned (.int .i64 r) ∧ Drawn0 w w' := by
 unfold spin_Imag.f at h
 split at h
 case isFalse => cases h
 rename_i hz
 obtain rfl := Option.some.inj h
 exact imag_go A0 _ c0 l0 w hG rfl hr0 (of_decide_eq_true hz)
def logs_Norm.l0 : Nat → Int → List Int → Int → Int → Option (Int)
 | 0, _, _, _, _ => none
 | k + 1, x3, x6, x7, x8 => if x8 < x7 then (if 0 ≤ x8 then (if x8 < (x6.length : Int) then (if (rd x6 x8) < 0 then (logs_Norm.l0 k (Go.bits .or .u64 x3 (IntKind.u64.wrap (wrap64 (-(rd x6 x8))))) x6 x7 (wrap64 (x8 + 1))) else (logs_Norm.l0 k (Go.bits .or .u64 x3 (IntKind.u64.wrap (rd x6 x8))) x6 x7 (wrap64 (x8 + 1)))) else (none)) else (none)) else ((logs_Bits.f x3).bind fun t118 => (some t118))
def logs_Norm.f (k : Nat) (l0 : List Int) : Option (Int) := logs_Norm.l0 k 0 l0 (l0.length : Int) 0
set_option maxHeartbeats 8000000 in
set_option maxRecDepth 100000 in
theorem logs_Norm.calls (k : Nat) (A0 : Option Addr) (c0 : Nat) (l0 : List Int) (r : Int) (w : World) (hr0 : Kd.C (Kd.int .i64) w A0 l0.length l0) (hc0 : l0.length ≤ c0) (h : logs_Norm.f k l0 = some r) :
  Calls Tryd.prog 80 #[.slice A0 l0.length c0] w fun e w' => e = .returned (.int .i64 r) ∧ Drawn0 w w' := by
 have HR0 := Aside0.mk hr0
 have HC0 := Aside0.mk hc0
 clear hr0 hc0
 have H : (logs_Norm.l0 k 0 l0 (l0.length : Int) 0) = some r := h
 clear h
 have H' := Aside0.mk H
 clear H
 go_enter Tryd.func80, Tryd.ntmps80
 go_wp2
 go_loopg [3, 8] k (fun kq v3 v8 w' => ∃ (x3_1 : Int) (x8_1 : Int), v3 = .int .u64 x3_1 ∧ v8 = .int .i64 x8_1 ∧ Aside0 (logs_Norm.l0 kq x3_1 l0 (l0.length : Int) x8_1 = some r) ∧ Aside0 (kq ≤ k) ∧ Drawn0 w w')
 case atStart => exact ⟨(0), (0), (by first | rfl | (simp; done) | (simp [*]; done)), (by first | rfl | (simp; done) | (simp [*]; done)), H', ⟨Nat.le_refl _⟩, by repeat (first | exact Drawn0.refl _ | apply Drawn0.step)⟩
 case round =>
  clear H'
  obtain ⟨x3_1, x8_1, rfl, rfl, HA, HK1, ⟨m1, rfl⟩⟩ := hrel
  cases gk with
  | zero => exact absurd HA.out (by simp [logs_Norm.l0])
  | succ k1 =>
    have H := HA.out
    clear HA
    simp only [logs_Norm.l0] at H
    by_cases c2 : x8_1 < (l0.length : Int)
    ·
     rw [if_pos c2] at H
     have c2b0 : decide (x8_1 < (l0.length : Int)) = true := decide_eq_true c2
     clear c2
     by_cases c3 : 0 ≤ x8_1
     ·
      rw [if_pos c3] at H
      have c3b0 : decide (0 ≤ x8_1) = true := decide_eq_true c3
      clear c3
      by_cases c4 : x8_1 < (l0.length : Int)
      ·
       rw [if_pos c4] at H
       have c4b0 : decide (x8_1 < (l0.length : Int)) = true := decide_eq_true c4
       clear c4
       by_cases c5 : (rd l0 x8_1) < 0
       ·
        rw [if_pos c5] at H
        have c5b0 : decide ((rd l0 x8_1) < 0) = true := decide_eq_true c5
        clear c5
        have H' := Aside0.mk H
        clear H
        have p117 : 0 ≤ (x8_1 : Int) := of_decide_eq_true (by first | (with_reducible assumption) | assumption)
        have q117 : x8_1 < (l0.length : Int) := of_decide_eq_true (by first | (with_reducible assumption) | assumption)
        obtain ⟨ad117, e117, hx117_0⟩ := Kd.at_int HR0.out x8_1 p117 q117
        cases e117
        replace p117 := eq_true p117
        replace q117 := eq_true q117
        go_wp2
        go_roundg k1
        case measure => have := HK1.out; omega
        case rel => exact ⟨(Go.bits .or .u64 x3_1 (IntKind.u64.wrap (wrap64 (-(rd l0 x8_1))))), (wrap64 (x8_1 + 1)), (by first | rfl | (simp; done) | (simp [*]; done)), (by first | rfl | (simp; done) | (simp [*]; done)), H', ⟨by have := HK1.out; omega⟩, by repeat (first | exact Drawn0.refl _ | apply Drawn0.step)⟩
       ·
        rw [if_neg c5] at H
        have c5b0 : decide ((rd l0 x8_1) < 0) = false := decide_eq_false c5
        clear c5
        have H' := Aside0.mk H
        clear H
        have p117 : 0 ≤ (x8_1 : Int) := of_decide_eq_true (by first | (with_reducible assumption) | assumption)
        have q117 : x8_1 < (l0.length : Int) := of_decide_eq_true (by first | (with_reducible assumption) | assumption)
        obtain ⟨ad117, e117, hx117_0⟩ := Kd.at_int HR0.out x8_1 p117 q117
        cases e117
        replace p117 := eq_true p117
        replace q117 := eq_true q117
        go_wp2
        go_roundg k1
        case measure => have := HK1.out; omega
        case rel => exact ⟨(Go.bits .or .u64 x3_1 (IntKind.u64.wrap (rd l0 x8_1))), (wrap64 (x8_1 + 1)), (by first | rfl | (simp; done) | (simp [*]; done)), (by first | rfl | (simp; done) | (simp [*]; done)), H', ⟨by have := HK1.out; omega⟩, by repeat (first | exact Drawn0.refl _ | apply Drawn0.step)⟩
      ·
       rw [if_neg c4] at H
       exact absurd H (by simp)
     ·
      rw [if_neg c3] at H
      exact absurd H (by simp)
    ·
     rw [if_neg c2] at H
     have c2b0 : decide (x8_1 < (l0.length : Int)) = false := decide_eq_false c2
     clear c2
     replace H := Option.bind_eq_some_iff.mp H
     obtain ⟨t118, A60, H⟩ := H
     replace H : (some t118) = some r := H
     have A6 := Aside0.mk A60
     clear A60
     obtain rfl := Option.some.inj H
     go_wp2_with (first | ((with_reducible refine gate_callee (f := 69) rfl ?_); refine goesL_ (some 25) rfl rfl Tryd.func69 (by kernel_rfl) rfl #[.int .u64 x3_1] rfl (by (try simp only [List.map_toArray, List.map_cons, List.map_nil]); first | done | rfl | (simp only [List.length_drop, List.length_take]; rfl)) ?_; (with_reducible refine (logs_Bits.calls x3_1 t118 _ A6.out).mono ?_); rintro e w' ⟨rfl, ⟨nd, rfl⟩⟩; refine ⟨_, rfl, ?_⟩))
     go_ret
     exact ⟨by first | rfl | (simp; done) | (simp [*]; done), by repeat (first | exact Drawn0.refl _ | apply Drawn0.step)⟩
theorem bsome {α β : Type} (a : α) (f : α → Option β) : (some a).bind f = f a := by
 generalize h : some a = o
 cases o with
 | none => cases h
 | some b => cases h; rfl
theorem bla_zero : ∀ f, Lib.bitLenAux f 0 = 0
 | 0 => rfl
 | f + 1 => by simp [Lib.bitLenAux]
theorem bla_spec : ∀ (f x : Nat), x < 2 ^ f → x < 2 ^ Lib.bitLenAux f x ∧ (x ≠ 0 → 1 ≤ Lib.bitLenAux f x ∧ 2 ^ (Lib.bitLenAux f x - 1) ≤ x) ∧ Lib.bitLenAux f x ≤ f
 | 0, x, h => by
   have : x = 0 := by simpa using h
   subst this
   simp [Lib.bitLenAux]
 | f + 1, x, h => by
   by_cases h0 : x = 0
   · subst h0; simp [bla_zero]
   ·
    have e1 : Lib.bitLenAux (f + 1) x = 1 + Lib.bitLenAux f (x / 2) := by
     show (if x = 0 then 0 else 1 + Lib.bitLenAux f (x / 2)) = _
     rw [if_neg h0]
    rw [e1]
    rw [Nat.pow_succ] at h
    obtain ⟨i1, i2, i3⟩ := bla_spec f (x / 2) (by omega)
    have hz : x / 2 = 0 → Lib.bitLenAux f (x / 2) = 0 := fun h1 => by rw [h1]; exact bla_zero f
    generalize Lib.bitLenAux f (x / 2) = b at *
    refine ⟨?_, fun _ => ⟨by omega, ?_⟩, by omega⟩
    · rw [Nat.add_comm, Nat.pow_succ]; omega
    ·
     rw [Nat.add_sub_cancel_left]
     by_cases h1 : x / 2 = 0
     ·
      have : b = 0 := hz h1
      subst this
      simp; omega
     ·
      obtain ⟨j1, j2⟩ := i2 h1
      have e : 2 ^ b = 2 ^ (b - 1) * 2 := by rw [← Nat.pow_succ]; congr 1; omega
      omega
theorem bl_spec {x : Nat} (h : x < 2 ^ 64) (h0 : x ≠ 0) : 1 ≤ Lib.bitLen x ∧ Lib.bitLen x ≤ 64 ∧ 2 ^ (Lib.bitLen x - 1) ≤ x ∧ x < 2 ^ (Lib.bitLen x - 1 + 1) := by
 obtain ⟨a, b, c⟩ := bla_spec 64 x h
 obtain ⟨d, e⟩ := b h0
 unfold Lib.bitLen
 refine ⟨d, c, e, ?_⟩
 rw [show Lib.bitLenAux 64 x - 1 + 1 = Lib.bitLenAux 64 x by omega]
 exact a
theorem bl_zero : Lib.bitLen 0 = 0 := bla_zero 64
theorem bits_some {x : Nat} (h : x < 2 ^ 64) : logs_Bits.f (x : Int) = some ((Lib.bitLen x : Nat) : Int) := by
 unfold logs_Bits.f bits_Len64.f
 rw [if_pos (by omega), if_pos (by omega), Int.toNat_natCast, bsome]
theorem bl_le {x n : Nat} (hx : x < 2 ^ 64) (h : Lib.bitLen x ≤ n) : x < 2 ^ n := by
 have := (bla_spec 64 x hx).1
 exact Nat.lt_of_lt_of_le this (Nat.pow_le_pow_right (by decide) h)
theorem bl_of_lt {x n : Nat} (hx : x < 2 ^ 64) (h : x < 2 ^ n) : Lib.bitLen x ≤ n := by
 by_cases h0 : x = 0
 · subst h0; rw [bl_zero]; exact Nat.zero_le _
 ·
  obtain ⟨a, b, c, d⟩ := bl_spec hx h0
  have := (Nat.pow_lt_pow_iff_right (a := 2) (by decide)).1 (Nat.lt_of_le_of_lt c h)
  omega
theorem bl_le_of_le {x y : Nat} (h : x ≤ y) (hy : y < 2 ^ 64) : Lib.bitLen x ≤ Lib.bitLen y :=
 bl_of_lt (by omega) (Nat.lt_of_le_of_lt h (bl_le hy (Nat.le_refl _)))
theorem bl_or {a b : Nat} (ha : a < 2 ^ 64) (hb : b < 2 ^ 64) : Lib.bitLen (a ||| b) = if Lib.bitLen b > Lib.bitLen a then Lib.bitLen b else Lib.bitLen a := by
 have hab : a ||| b < 2 ^ 64 := Nat.or_lt_two_pow ha hb
 have l1 := bl_le_of_le (show a ≤ a ||| b from Nat.left_le_or) hab
 have l2 := bl_le_of_le (show b ≤ a ||| b from Nat.right_le_or) hab
 have up : ∀ n, Lib.bitLen a ≤ n → Lib.bitLen b ≤ n → Lib.bitLen (a ||| b) ≤ n := fun n h1 h2 =>
  bl_of_lt hab (Nat.or_lt_two_pow (bl_le ha h1) (bl_le hb h2))
 split
 · have := up (Lib.bitLen b) (by omega) (Nat.le_refl _); omega
 · have := up (Lib.bitLen a) (Nat.le_refl _) (by omega); omega
theorem bl_64 {x : Nat} (h : x < 2 ^ 64) : Lib.bitLen x ≤ 64 := bl_of_lt h h
def orL : List Int → Nat
 | [] => 0
 | x :: l => x.natAbs ||| orL l
def normN (l : List Int) : Nat := Lib.bitLen (orL l)
def Rng (l : List Int) : Prop := ∀ x ∈ l, -9223372036854775808 ≤ x ∧ x ≤ 9223372036854775807
theorem orL_lt : ∀ {l : List Int}, Rng l → orL l < 2 ^ 64
 | [], _ => by decide
 | x :: l, h => by
   have h0 := h x (List.mem_cons_self)
   exact Nat.or_lt_two_pow (by omega) (orL_lt (fun y hy => h y (List.mem_cons_of_mem _ hy)))
theorem normN_le {l : List Int} (h : Rng l) : normN l ≤ 64 := bl_64 (orL_lt h)
theorem norm_go (l : List Int) (hl : l.length ≤ 1000000) (hw : Rng l) (m : Nat) : ∀ (j i acc : Nat), i + j = l.length → acc < 2 ^ 64 →
  logs_Norm.l0 (j + 1 + m) (acc : Int) l (l.length : Int) (i : Int) = some ((Lib.bitLen (acc ||| orL (l.drop i)) : Nat) : Int)
 | 0, i, acc, hi, ha => by
   rw [show 0 + 1 + m = m + 1 by omega, logs_Norm.l0, if_neg (by omega), bits_some ha, Option.bind_some, List.drop_of_length_le (by omega)]
   simp [orL]
 | j + 1, i, acc, hi, ha => by
   have hi' : i < l.length := by omega
   have hr : rd l (i : Int) = l[i] := by
    unfold rd
    rw [Int.toNat_natCast, List.getD_eq_getElem?_getD, List.getElem?_eq_getElem hi', Option.getD_some]
   obtain ⟨w0, w1⟩ := hw _ (List.getElem_mem hi')
   rw [← hr] at w0 w1
   have hx64 : (rd l (i : Int)).natAbs < 2 ^ 64 := by omega
   have e1 : wrap64 ((i : Int) + 1) = ((i + 1 : Nat) : Int) := by unfold wrap64; omega
   have ih := norm_go l hl hw m j (i + 1) (acc ||| (rd l (i : Int)).natAbs) (by omega) (Nat.or_lt_two_pow ha hx64)
   rw [List.drop_eq_getElem_cons hi', orL, ← hr, ← Nat.or_assoc, ← ih]
   rw [show j + 1 + 1 + m = (j + 1 + m) + 1 by omega, logs_Norm.l0, if_pos (by omega), if_pos (by omega), if_pos (by omega), e1, ← u64_or_nat acc _ ha hx64]
   split
   ·
    have : IntKind.u64.wrap (wrap64 (-(rd l (i : Int)))) = (((rd l (i : Int)).natAbs : Nat) : Int) := by rw [IntKind.wrap_u64]; unfold wrap64; omega
    rw [this]
   ·
    have : IntKind.u64.wrap (rd l (i : Int)) = (((rd l (i : Int)).natAbs : Nat) : Int) := by rw [IntKind.wrap_u64]; omega
    rw [this]
theorem norm_some {l : List Int} (hl : l.length ≤ 500) (hw : Rng l) : logs_Norm.f 501 l = some ((normN l : Nat) : Int) := by
 have h := norm_go l (by omega) hw (500 - l.length) l.length 0 0 (by omega) (by decide)
 rw [show l.length + 1 + (500 - l.length) = 501 by omega, Nat.zero_or, List.drop_zero] at h
 exact h
def partsRe (rows : List (List Int)) (m : Nat) : List Int := (List.range m).map fun k => sp_part (rows.getD k []) cosT
def partsIm (rows : List (List Int)) (m : Nat) : List Int := (List.range m).map fun k => wrap64 (-(sp_part (rows.getD k []) sinT))
def shiftOf (a b : List Int) : Nat := normN (a ++ b) - 15
def halfL (l : List Int) (s : Nat) : List Int := l.map fun x => divR x ((2 ^ s : Nat) : Int)
def binsF (l : List Int) : List Int × List Int × Int :=
 if fftMay l.length = true then
  (halfL (partsRe (spinsF l) (l.length / 2 + 1)) (shiftOf (partsRe (spinsF l) (l.length / 2 + 1)) (partsIm (spinsF l) (l.length / 2 + 1))),
   halfL (partsIm (spinsF l) (l.length / 2 + 1)) (shiftOf (partsRe (spinsF l) (l.length / 2 + 1)) (partsIm (spinsF l) (l.length / 2 + 1))),
   ((shiftOf (partsRe (spinsF l) (l.length / 2 + 1)) (partsIm (spinsF l) (l.length / 2 + 1)) : Nat) : Int))
 else ([], [], 0)
def fft_Bins.f (l0 : List Int) : Option (List Int × List Int × Int) := if decide (l0.length ≤ 1000000) && l0.all (fun x => decide (-9223372036854775808 ≤ x) && decide (x ≤ 9223372036854775807)) then some (binsF l0) else none
theorem sp_sum_in (l : List Int) (T : Int → Int) (s : Nat) : ∀ n, -9223372036854775808 ≤ sp_sum l T s n ∧ sp_sum l T s n ≤ 9223372036854775807
 | 0 => ⟨by rw [sp_sum]; decide, by rw [sp_sum]; decide⟩
 | n + 1 => by rw [sp_sum]; exact ⟨W_lo _, W_hi _⟩
theorem sp_part_in (l : List Int) (T : Int → Int) : -9223372036854775808 ≤ sp_part l T ∧ sp_part l T ≤ 9223372036854775807 := by
 unfold sp_part
 split
 · exact sp_sum_in _ _ _ _
 · exact ⟨by decide, by decide⟩
theorem partsRe_length (rows : List (List Int)) (m : Nat) : (partsRe rows m).length = m := by simp [partsRe]
theorem partsIm_length (rows : List (List Int)) (m : Nat) : (partsIm rows m).length = m := by simp [partsIm]
theorem partsRe_rng (rows : List (List Int)) (m : Nat) : Rng (partsRe rows m) := by
 intro x hx
 simp only [partsRe, List.mem_map] at hx
 obtain ⟨k, _, rfl⟩ := hx
 exact sp_part_in _ _
theorem partsIm_rng (rows : List (List Int)) (m : Nat) : Rng (partsIm rows m) := by
 intro x hx
 simp only [partsIm, List.mem_map] at hx
 obtain ⟨k, _, rfl⟩ := hx
 exact ⟨W_lo _, W_hi _⟩
theorem Rng.append {a b : List Int} (ha : Rng a) (hb : Rng b) : Rng (a ++ b) := fun x hx => (List.mem_append.1 hx).elim (ha x) (hb x)
theorem partsRe_snoc (rows : List (List Int)) (m : Nat) : partsRe rows m ++ [sp_part (rows.getD m []) cosT] = partsRe rows (m + 1) := by unfold partsRe; rw [List.range_succ, List.map_append]; rfl
theorem partsIm_snoc (rows : List (List Int)) (m : Nat) : partsIm rows m ++ [wrap64 (-(sp_part (rows.getD m []) sinT))] = partsIm rows (m + 1) := by unfold partsIm; rw [List.range_succ, List.map_append]; rfl
theorem shl_pow (s : Nat) (h : s ≤ 62) : shl .i64 1 (s : Int) = ((2 ^ s : Nat) : Int) := by
 have : ∀ n : Fin 63, shl .i64 1 ((n.1 : Nat) : Int) = ((2 ^ n.1 : Nat) : Int) := by decide +kernel
 exact this ⟨s, by omega⟩
theorem half_gen {x : Int} (h0 : -9223372036854775808 ≤ x) (h1 : x ≤ 9223372036854775807) (s : Nat) (hs : s ≤ 62) : round_Half.f x (s : Int) = some (divR x ((2 ^ s : Nat) : Int)) := by
 have hle : 2 ^ s ≤ 2 ^ 62 := Nat.pow_le_pow_right (by decide) hs
 have hpos : 0 < 2 ^ s := Nat.two_pow_pos s
 unfold round_Half.f round_Div.f
 rw [if_neg (by omega), if_neg (by omega), if_pos (by omega), shl_pow s hs]
 generalize 2 ^ s = p at *
 rw [if_pos (i64b_mk h0 h1), if_pos (i64b_mk (by omega) (by omega))]
 rfl
def Apart2 (u v : Value) : Prop := ∀ k, u.ownBlock = some k → v.ownBlock ≠ some k
theorem Apart2.symm {u v : Value} (h : Apart2 u v) : Apart2 v u := fun k hv hu => h k hu hv
theorem apart_nil (v : Value) : Apart2 (.slice none 0 0) v := fun k h => by simp [Value.ownBlock] at h
theorem apart_step {W : World} {u u1 v : Value} (h : Apart2 u v) (hv : ∀ k, v.ownBlock = some k → k < W.heap.size) (hat : u1.ownBlock = u.ownBlock ∨ ∃ b, u1.ownBlock = some b ∧ W.heap.size ≤ b) : Apart2 u1 v := by
 intro k hk hv2
 rcases hat with e | ⟨b, e, hb⟩
 · exact h k (by rw [← e]; exact hk) hv2
 ·
  rw [e] at hk
  injection hk with hk
  have := hv k hv2
  omega
theorem R_other {W w1 : World} {base t : Nat} {u v : Value} {xs : List Int} (h : (Kd.int .i64).R t W base (fun _ => True) v xs) (hg : W.grownBy w1 u.ownBlock) (ha : Apart2 v u) : (Kd.int .i64).R t w1 base (fun _ => True) v xs := by
 refine Kd.R_of_own (own_other (Kd.own_of_R h) hg ?_) (fun _ _ => trivial)
 cases hv : v.ownBlock with
 | none => exact .inl rfl
 | some k => exact .inr (fun e => ha k hv e.symm)
theorem R_cell_at {W : World} {base t g n cap : Nat} {ok : Nat → Prop} {xs : List Int} (h : (Kd.int .i64).R t W base ok (.slice (some ⟨g, 0, none⟩) n cap) xs) (i : Nat) (hi : i < n) : W.cell? ⟨g, i, none⟩ = some (.int .i64 (xs.getD i 0)) := by
 have := (Kd.R_celln (0 : Int) h (i : Int) (by omega) (by omega)).1
 rw [Int.toNat_natCast] at this
 rw [this, rdOf, Int.toNat_natCast]
theorem grown_drewN {w w1 : World} {row : Option Nat} {n : Nat} (h : (w.drewN n).grownBy w1 row) : w.grownBy w1 row := ⟨h.os, h.tape, h.output, h.size, h.block⟩
theorem norm_c (A : Option Addr) (n c : Nat) (l : List Int) (r : Nat) (W : World) (hl : l.length = n) (hC : (Kd.int .i64).C W A n l) (hc : n ≤ c) (hn : n ≤ 500) (hw : Rng l) (hr : normN l = r) :
  Calls Tryd.prog 80 #[.slice A n c] W fun e w' => e = .returned (.int .i64 (r : Int)) ∧ Drawn0 W w' := by
 subst hl; subst hr
 exact logs_Norm.calls 501 A c l _ W hC hc (norm_some hn hw)
theorem half_s (x : Int) (s : Nat) (r : Int) (W : World) (h0 : -9223372036854775808 ≤ x ∧ x ≤ 9223372036854775807) (hs : s ≤ 62) (hr : divR x ((2 ^ s : Nat) : Int) = r) :
  Calls Tryd.prog 47 #[.int .i64 x, .int .i64 (s : Int)] W fun e w' => e = .returned (.int .i64 r) ∧ Below W.heap.size W w' := by
 subst hr
 exact round_Half.calls _ _ _ W (half_gen h0.1 h0.2 s hs)
theorem rng_at {l : List Int} (h : Rng l) (i : Nat) (hi : i < l.length) : -9223372036854775808 ≤ l.getD i 0 ∧ l.getD i 0 ≤ 9223372036854775807 := by
 rw [List.getD_eq_getElem?_getD, List.getElem?_eq_getElem hi, Option.getD_some]; exact h _ (List.getElem_mem hi)
theorem halfL_length (l : List Int) (s : Nat) : (halfL l s).length = l.length := by simp [halfL]
theorem halfL_getD (l : List Int) (s i : Nat) (hi : i < l.length) : (halfL l s).getD i 0 = divR (l.getD i 0) ((2 ^ s : Nat) : Int) := by
 simp [halfL, List.getD_eq_getElem?_getD, List.getElem?_map, List.getElem?_eq_getElem hi]
theorem nums_at {xs : List Int} {j : Nat} {u : Value} (h : (nums .i64 xs)[j]? = some u) : j < xs.length ∧ u = .int .i64 (xs.getD j 0) := by
 simp only [nums, List.getElem?_map, Option.map_eq_some_iff] at h
 obtain ⟨x, hx, rfl⟩ := h
 exact ⟨(List.getElem?_eq_some_iff.1 hx).1, by rw [List.getD_eq_getElem?_getD, hx]; rfl⟩
theorem nums_one {xs : List Int} {u : Value} (h : u ∈ nums .i64 xs) : u.oneCell' = true := by
 simp only [nums, List.mem_map] at h
 obtain ⟨x, _, rfl⟩ := h
 rfl
theorem both_reads {W : World} {base n : Nat} {v : Value} {a b : List Int} (h : W.ownsRow base 3 1 v (n + n) (nums .i64 a ++ nums .i64 b)) (ha : a.length = n) (hb : b.length = n) : ∃ A c, v = .slice A (n + n) c ∧ n + n ≤ c ∧ (Kd.int .i64).C W A (n + n) (a ++ b) := by
 have hl : (a ++ b).length = n + n := by rw [List.length_append, ha, hb]
 have hR := Kd.R_of_own (enc := Value.int .i64) (h1 := fun _ => rfl) (ok := fun _ => True) (xs := a ++ b) (v := v) (w := W) (base := base) (e := 3) (by rw [hl]; rw [← nums_append] at h; exact h) (fun _ _ => trivial)
 obtain ⟨A, c, h1, h2, h3⟩ := Kd.R_reads hR
 rw [hl] at h1 h2 h3
 exact ⟨A, c, h1, h2, h3⟩
theorem own_of_R' {W : World} {base n : Nat} {v : Value} {xs : List Int} {ok : Nat → Prop} (h : (Kd.int .i64).R 3 W base ok v xs) (hl : xs.length = n) : W.ownsRow base 3 1 v n (nums .i64 xs) := by
 have := Kd.own_of_R h
 rw [hl] at this; exact this
theorem own_cell {W : World} {b g h cap : Nat} {xs : List Int} (HO : W.ownsRow b 3 1 (.slice (some ⟨g, 0, none⟩) h cap) h (nums .i64 xs)) (q : Nat) (hq : q < h) : W.cell? ⟨g, q, none⟩ = some (.int .i64 (xs.getD q 0)) := by
 have := (own_at HO (q : Int) (by omega) (by omega)).1
 rw [Int.toNat_natCast] at this
 rw [this, rd, Int.toNat_natCast]
theorem set_half {ys zs : List Int} {k n : Nat} {s : Nat} (hy : ys.length = n) (hz : zs.length = n) (hk : k < n) (h : ∀ j, j < n → ys.getD j 0 = if j < k then (halfL zs s).getD j 0 else zs.getD j 0) (j : Nat) (hj : j < n) :
  (ys.set k (divR (zs.getD k 0) ((2 ^ s : Nat) : Int))).getD j 0 = if j < k + 1 then (halfL zs s).getD j 0 else zs.getD j 0 := by
 by_cases e : j = k
 ·
  subst e
  rw [if_pos (by omega), halfL_getD zs s j (by omega), List.getD_eq_getElem?_getD, List.getElem?_set_self (by omega)]; rfl
 ·
  have := h j hj
  rw [List.getD_eq_getElem?_getD] at this ⊢
  rw [List.getElem?_set_ne (fun h' => e h'.symm), this]
  by_cases h2 : j < k
  · rw [if_pos h2, if_pos (by omega)]
  · rw [if_neg h2, if_neg (by omega)]
theorem real_x (A : Option Addr) (h c : Nat) (l : List Int) (r : Int) (W : World) (hG : GlobA W) (hl : l.length = h) (hC : (Kd.int .i64).C W A h l) (hh : h ≤ 1000000) (hr : sp_part l cosT = r) :
  Calls Tryd.prog 78 #[.slice A h c] W fun e w' => e = .returned (.int .i64 r) ∧ Drawn0 W w' := by
 subst hr
 exact (real_go A h c l W hG hl hC hh).mono fun e w' ⟨a, ⟨n, b⟩⟩ => ⟨a, ⟨n, b⟩⟩
theorem imag_x (A : Option Addr) (h c : Nat) (l : List Int) (r : Int) (W : World) (hG : GlobA W) (hl : l.length = h) (hC : (Kd.int .i64).C W A h l) (hh : h ≤ 1000000) (hr : wrap64 (-(sp_part l sinT)) = r) :
  Calls Tryd.prog 79 #[.slice A h c] W fun e w' => e = .returned (.int .i64 r) ∧ Drawn0 W w' := by
 subst hr
 exact (imag_go A h c l W hG hl hC hh).mono fun e w' ⟨a, ⟨n, b⟩⟩ => ⟨a, ⟨n, b⟩⟩
set_option maxHeartbeats 64000000 in
set_option maxRecDepth 100000 in
theorem bins_yes (H N c : Nat) (A : Option Addr) (l : List Int) (w : World) (hG : GlobA w) (hl : l.length = N) (hC : (Kd.int .i64).C w A N l) (hin : In64 l) (hm : fftMay N = true) (hHN : N / 2 = H) (hnc : N ≤ c) :
  Calls Tryd.prog 50 #[.slice A N c] w fun e w' => ∃ v0_ v1_ : Value, e = .returned (.tuple #[v0_, v1_, .int .i64 ((shiftOf (partsRe (spinsF l) (H + 1)) (partsIm (spinsF l) (H + 1)) : Nat) : Int)]) ∧
   Kd.R (Kd.int .i64) 3 w' w.heap.size (fun k_ => some k_ ≠ (v1_ : Value).ownBlock) v0_ (halfL (partsRe (spinsF l) (H + 1)) (shiftOf (partsRe (spinsF l) (H + 1)) (partsIm (spinsF l) (H + 1)))) ∧
   Kd.R (Kd.int .i64) 3 w' w.heap.size (fun k_ => some k_ ≠ (v0_ : Value).ownBlock) v1_ (halfL (partsIm (spinsF l) (H + 1)) (shiftOf (partsRe (spinsF l) (H + 1)) (partsIm (spinsF l) (H + 1)))) ∧ Below w.heap.size w w' := by
 have hN : N = 2 * H ∧ 1 ≤ H ∧ N ≤ 64 := by rcases fftMay_cases hm with rfl | rfl | rfl | rfl | rfl | rfl <;> omega
 obtain ⟨hN2, hH1, hN64⟩ := hN
 have HMY := Aside0.mk (by rw [fft_may_f, hm] : fft_may.f (N : Int) = some true)
 have hrl : (spinsF l).length = N := by unfold spinsF; rw [hl, if_pos hm, halvesL_length, logOf_pow hm]
 have hrr : ∀ k, k < N → ((spinsF l).getD k []).length = H := fun k hk => by
  unfold spinsF; rw [hl, if_pos hm, hHN]
  exact (halvesL_row l hin H (by omega) (logOf N) 0 1 k (by rw [logOf_pow hm]; exact hk)).1
 have HSP : Aside0 (∀ W : World, (Kd.int .i64).C W A N l → Calls Tryd.prog 77 #[.slice A N c] W fun e w' => ∃ v0_ : Value, e = .returned v0_ ∧ R2 w' W.heap.size (fun _ => True) v0_ (spinsF l) ∧ Below W.heap.size W w') := ⟨fun W hW => spins_go N c A l W hl hW hin (by omega)⟩
 have HRL := Aside0.mk hrl
 have HRR := Aside0.mk hrr
 generalize spinsF l = rows at *
 have q1 : Int.tdiv (N : Int) 2 = (H : Int) := by rw [Int.tdiv_eq_ediv_of_nonneg (by omega)]; omega
 have q2 : (N : Int) / 2 = (H : Int) := by omega
 obtain ⟨H1, hH⟩ : ∃ H1, H + 1 = H1 := ⟨_, rfl⟩
 rw [hH]
 have q3 : (H : Int) + 1 = (H1 : Int) := by omega
 have hH1N : H1 ≤ N := by omega
 have hH1p : 0 < H1 := by omega
 have hH33 : H1 ≤ 33 := by omega
 obtain ⟨re0, hre0⟩ : ∃ x, partsRe rows H1 = x := ⟨_, rfl⟩
 obtain ⟨im0, him0⟩ : ∃ x, partsIm rows H1 = x := ⟨_, rfl⟩
 obtain ⟨nn, hnn⟩ : ∃ x, normN (re0 ++ im0) = x := ⟨_, rfl⟩
 obtain ⟨sh, hsh⟩ : ∃ x, nn - 15 = x := ⟨_, rfl⟩
 have hss : shiftOf (partsRe rows H1) (partsIm rows H1) = sh := by unfold shiftOf; rw [hre0, him0, hnn, hsh]
 have hrgr : Rng re0 := by rw [← hre0]; exact partsRe_rng _ _
 have hrgi : Rng im0 := by rw [← him0]; exact partsIm_rng _ _
 have hlr : re0.length = H1 := by rw [← hre0, partsRe_length]
 have hli : im0.length = H1 := by rw [← him0, partsIm_length]
 have hn64 : nn ≤ 64 := by rw [← hnn]; exact normN_le (hrgr.append hrgi)
 have hmax : (if (nn : Int) - 15 < 0 then (0 : Int) else (nn : Int) - 15) = (sh : Int) := by split <;> omega
 have hsh62 : sh ≤ 62 := by omega
 rw [hss, hre0, him0]
 have HE0 := Aside0.mk hre0
 have HI0 := Aside0.mk him0
 have HNN := Aside0.mk hnn
 have HRG := Aside0.mk hrgr
 have HRI := Aside0.mk hrgi
 have HLR := Aside0.mk hlr
 have HLI := Aside0.mk hli
 have HC := Aside0.mk hC
 have HG0 := Aside0.mk hG
 obtain ⟨i0, hi0, hz0, hz1, hz2⟩ := info_parts turn_info
 clear hl hC hin hm hN2 hHN hH hrl hrr hsh hss hre0 him0 hnn hrgr hrgi hlr hli hn64 hG
 go_enter Tryd.func50, Tryd.ntmps50
 go_wp2_with (first
  | (go_at_call 76; (with_reducible refine (fft_may.calls _ _ _ HMY.out).mono ?_); rintro e w1 ⟨rfl, ⟨nd, rfl⟩⟩)
  | (go_at_call 77; refine (HSP.out _ (Kd.C_drewN HC.out _)).mono ?_; rintro e W3 ⟨vS, rfl, RS0, BS⟩; have HB3 := Aside0.mk (below_step (pw_below_drewN (Below.refl w.heap.size w) nd) BS); obtain ⟨AS, cS, hvS, hcS, _⟩ := Kd.R_reads RS0; rw [HRL.out] at hvS hcS; subst hvS; have RS : Aside0 (R2 W3 w.heap.size (fun q => q < W3.heap.size) (.slice AS N cS) rows) := ⟨Kd.R_mono (Kd.R_bound (Kd.R_lower RS0 (Below.size (pw_below_drewN (Below.refl w.heap.size w) nd)))) (fun k hk => hk.2.2.1)⟩; have hHcS : H1 ≤ cS := Nat.le_trans hH1N hcS; clear RS0 BS))
 have HG3 := Aside0.mk (HG0.out.below HB3.out)
 go_loopw [2, 3, 20] (fun v2 v3 v wr => ∃ (k : Nat), k ≤ H1 ∧ v = .int .i64 (k : Int) ∧ Aside0 (Kd.R (Kd.int .i64) 3 wr W3.heap.size (fun _ => True) v2 (partsRe rows k)) ∧ Aside0 (Kd.R (Kd.int .i64) 3 wr W3.heap.size (fun _ => True) v3 (partsIm rows k)) ∧ Aside0 (Apart2 v2 v3) ∧ Aside0 (R2 wr w.heap.size (fun q => q < W3.heap.size) (.slice AS N cS) rows) ∧ Aside0 (Below W3.heap.size W3 wr)) (fun _ _ v _ => H1 - (intOf v).toNat)
 case atStart => exact ⟨0, by omega, rfl, ⟨Kd.R_nil _ _ _ _ _⟩, ⟨Kd.R_nil _ _ _ _ _⟩, ⟨apart_nil _⟩, RS, ⟨Below.refl _ _⟩⟩
 case round =>
  clear RS
  obtain ⟨k, hk, rfl, H2, H3, D1, HR, HB⟩ := hrel
  by_cases hlt : k < H1
  ·
   obtain ⟨adS, B, dB, hAS, k0, lB, CB⟩ := R2_row HR.out k (by omega)
   subst hAS
   rw [HRR.out k (by omega)] at k0 lB CB
   obtain ⟨row, hrow⟩ : ∃ r, rows.getD k [] = r := ⟨_, rfl⟩
   have hlrow := HRR.out k (by omega)
   have hsn := partsRe_snoc rows k
   have hsm := partsIm_snoc rows k
   rw [hrow] at CB hlrow hsn hsm
   obtain ⟨x, hx⟩ : ∃ x, sp_part row cosT = x := ⟨_, rfl⟩
   obtain ⟨y, hy⟩ : ∃ y, wrap64 (-(sp_part row sinT)) = y := ⟨_, rfl⟩
   rw [hx] at hsn
   rw [hy] at hsm
   have HSN := Aside0.mk hsn
   have HSM := Aside0.mk hsm
   have HXX := Aside0.mk hx
   have HYY := Aside0.mk hy
   have HRW := Aside0.mk CB
   have HLW := Aside0.mk hlrow
   have j0 : (k : Int) < (H1 : Int) := by omega
   have ST0 : True := trivial
   clear hsn hsm hx hy CB hlrow hrow
   go_wp2_with (first
    | (go_at_call 78; clear ST0; (with_reducible refine (real_x B H dB row x _ (HG3.out.below (by repeat (first | exact HB.out | apply below_alloc | apply pw_below_drewN | apply below_drew1))) HLW.out (by repeat (first | exact R_C HRW.out | refine Kd.C_drewN ?_ _ | refine Kd.C_alloc ?_ _)) (by omega) HXX.out).mono ?_); rintro e_ w' ⟨rfl, ⟨nd1, rfl⟩⟩; have ST1 : True := trivial)
    | ((with_reducible refine gate_builtin (b := .append) (xs := #[.tmp 24, .tmp 27]) rfl ?_); at_builtin; refine Kd.R_append (Kd.int .i64) (w0 := W3) W3.heap.size rfl (.tmp 24) (.tmp 27) 22 3 (.int .i64 0) 8 rfl Tryd.underlying22 turn_info rfl (by decide) (by omega) u2 (partsRe rows k) (x) [.int .i64 (x)] (fun _ => True) (fun _ => False) rfl rfl ?aP (fun _ hk => hk.elim) ?aF ?aO ?aB ?aS ?aL ?_; (case aP => exact rfl); (case aB => exact (by repeat (first | exact HB.out | apply below_alloc | apply pw_below_drewN | apply below_drew1))); (case aF => exact (fun _ _ => trivial)); (case aO => exact (by (with_reducible repeat (first | apply Kd.R_alloc | apply Kd.R_drewN | apply Kd.R_drew)); exact H2.out)); (case aS => exact (below_size (by repeat (first | exact HB.out | apply below_alloc | apply pw_below_drewN | apply below_drew1)))); (case aL => rw [partsRe_length]; omega); intro vn wn ho hb hg hat; have hg := grown_drewN hg; have a1 := apart_step D1.out (Kd.R_lt H3.out) hat; have n3 := Aside0.mk (R_other H3.out hg D1.out.symm); have hb2 := Kd.R_base H2.out; have nr := Aside0.mk (Kd.R_grown HR.out hg (fun q hq e => by have := hb2 q e.symm; omega)); have nw := Aside0.mk (Kd.R_grown HRW.out hg (fun q hq e => by have := hb2 q e.symm; omega)); clear H3 D1 HR hb2 HRW; have H3 := n3; have D1 := Aside0.mk a1; have HR := nr; have HRW := nw; clear n3 a1 nr nw; rw [HSN.out] at ho; have HBn := Aside0.mk hb; have HOn := Aside0.mk ho; clear HB H2; have HB := HBn; have H2 := HOn; clear HBn HOn ho hb hg hat)
    | (go_at_call 79; clear ST1; (with_reducible refine (imag_x B H dB row y _ (HG3.out.below (by repeat (first | exact HB.out | apply below_alloc | apply pw_below_drewN | apply below_drew1))) HLW.out (by repeat (first | exact R_C HRW.out | refine Kd.C_drewN ?_ _ | refine Kd.C_alloc ?_ _)) (by omega) HYY.out).mono ?_); rintro e_ w' ⟨rfl, ⟨nd2, rfl⟩⟩; have ST2 : True := trivial)
    | ((with_reducible refine gate_builtin (b := .append) (xs := #[.tmp 29, .tmp 32]) rfl ?_); at_builtin; refine Kd.R_append (Kd.int .i64) (w0 := W3) W3.heap.size rfl (.tmp 29) (.tmp 32) 22 3 (.int .i64 0) 8 rfl Tryd.underlying22 turn_info rfl (by decide) (by omega) u3 (partsIm rows k) (y) [.int .i64 (y)] (fun _ => True) (fun _ => False) rfl rfl ?aP (fun _ hk => hk.elim) ?aF ?aO ?aB ?aS ?aL ?_; (case aP => exact rfl); (case aB => exact (by repeat (first | exact HB.out | apply below_alloc | apply pw_below_drewN | apply below_drew1))); (case aF => exact (fun _ _ => trivial)); (case aO => exact (by (with_reducible repeat (first | apply Kd.R_alloc | apply Kd.R_drewN | apply Kd.R_drew)); exact H3.out)); (case aS => exact (below_size (by repeat (first | exact HB.out | apply below_alloc | apply pw_below_drewN | apply below_drew1)))); (case aL => rw [partsIm_length]; omega); intro vn wn ho hb hg hat; have hg := grown_drewN hg; have a1 := apart_step D1.out.symm (Kd.R_lt H2.out) hat; have n2 := Aside0.mk (R_other H2.out hg D1.out); have hb2 := Kd.R_base H3.out; have nr := Aside0.mk (Kd.R_grown HR.out hg (fun q hq e => by have := hb2 q e.symm; omega)); have nw := Aside0.mk (Kd.R_grown HRW.out hg (fun q hq e => by have := hb2 q e.symm; omega)); clear H2 D1 HR hb2 HRW; have H2 := n2; have D1 := Aside0.mk a1.symm; have HR := nr; have HRW := nw; clear n2 a1 nr nw; rw [HSM.out] at ho; have HBn := Aside0.mk hb; have HOn := Aside0.mk ho; clear HB H3; have HB := HBn; have H3 := HOn; clear HBn HOn ho hb hg hat))
   go_roundw
   case rel => exact ⟨k + 1, by omega, by go_num, H2, H3, D1, HR, HB⟩
   case measure => simp [intOf]; omega
  ·
   obtain rfl : H1 = k := by omega
   rw [HE0.out] at H2
   rw [HI0.out] at H3
   obtain ⟨g2, cap2, hv2, hb2, hl2, _⟩ := Kd.R_form H2.out (by rw [HLR.out]; exact hH1p)
   obtain ⟨g3, cap3, hv3, hb3, hl3, _⟩ := Kd.R_form H3.out (by rw [HLI.out]; exact hH1p)
   rw [HLR.out] at hv2
   rw [HLI.out] at hv3
   subst hv2
   subst hv3
   have hcap2 : H1 ≤ cap2 := (Kd.R_reads' H2.out).2.1
   have hcap3 : H1 ≤ cap3 := (Kd.R_reads' H3.out).2.1
   have hne : g2 ≠ g3 := fun h => D1.out g2 rfl (by rw [h]; rfl)
   have LN2 : Aside0 ((nums .i64 re0).length = H1 * 1) := ⟨by rw [nums_length, HLR.out]; omega⟩
   have LN3 : Aside0 ((nums .i64 im0).length = H1 * 1) := ⟨by rw [nums_length, HLI.out]; omega⟩
   have ST0 : True := trivial
   clear HR D1 hlt hk
   go_wp2_with (first
    | (at_builtin; clear ST0; refine wpList_append_grows _ rfl (.tmp 40) (.tmp 41) 22 rfl 3 i0 _ 1 8 Tryd.underlying22 hi0 hz0 hz1 hz2 rfl (by decide) (some ⟨g2, 0, none⟩) H1 H1 (nums .i64 re0) (by rfl) (fun h => by cases h) LN2.out (fun b hb j u hu => by injection hb with hb; subst hb; obtain ⟨hj, rfl⟩ := nums_at hu; rw [add_plain]; exact R_cell_at H2.out j (by rw [HLR.out] at hj; exact hj)) ⟨g3, 0, none⟩ H1 cap3 (nums .i64 im0) (by rfl) LN3.out (fun j u hu => by obtain ⟨hj, rfl⟩ := nums_at hu; rw [add_plain]; exact R_cell_at H3.out j (by rw [HLI.out] at hj; exact hj)) (fun u hu => nums_one hu) (by omega) (by unfold maxLen; omega) (by omega) ?_; intro v' w' hown hgr; obtain ⟨A', c', hv', hc', hC'⟩ := both_reads hown HLR.out HLI.out; subst hv'; have CX := Aside0.mk hC'; have n2 := Aside0.mk (Kd.R_grown H2.out hgr (fun q _ e => by cases e)); have n3 := Aside0.mk (Kd.R_grown H3.out hgr (fun q _ e => by cases e)); have nb := Aside0.mk (Below.grown HB.out hgr HB.out.size (fun q e => by cases e)); clear H2 H3 HB hown hgr hC'; have H2 := n2; have H3 := n3; have HB := nb; clear n2 n3 nb; have ST1 : True := trivial)
    | (go_at_call 80; clear ST1; (with_reducible refine (norm_c A' (H1 + H1) c' (re0 ++ im0) nn _ (by rw [List.length_append, HLR.out, HLI.out]) CX.out hc' (by omega) (HRG.out.append HRI.out) HNN.out).mono ?_); rintro e_ wn ⟨rfl, ⟨nd3, rfl⟩⟩))
   have HO2a := Aside0.mk (own_of_R' H2.out HLR.out)
   have HO3a := Aside0.mk (own_of_R' H3.out HLI.out)
   clear H2 H3 CX
   go_loopw [48] (fun v wr4 => ∃ (k : Nat) (ys zs : List Int), k ≤ H1 ∧ v = .int .i64 (k : Int) ∧ Aside0 (ys.length = H1) ∧ Aside0 (zs.length = H1) ∧ Aside0 (∀ j, j < H1 → ys.getD j 0 = if j < k then (halfL re0 sh).getD j 0 else re0.getD j 0) ∧ Aside0 (∀ j, j < H1 → zs.getD j 0 = if j < k then (halfL im0 sh).getD j 0 else im0.getD j 0) ∧ Aside0 (wr4.ownsRow W3.heap.size 3 1 (.slice (some ⟨g2, 0, none⟩) H1 cap2) H1 (nums .i64 ys)) ∧ Aside0 (wr4.ownsRow W3.heap.size 3 1 (.slice (some ⟨g3, 0, none⟩) H1 cap3) H1 (nums .i64 zs)) ∧ Aside0 (Below W3.heap.size W3 wr4)) (fun v _ => H1 - (intOf v).toNat)
   case atStart => exact ⟨0, re0, im0, by omega, rfl, HLR, HLI, ⟨fun j hj => by rw [if_neg (by omega)]⟩, ⟨fun j hj => by rw [if_neg (by omega)]⟩, ⟨by repeat (first | exact HO2a.out | refine pw_own_below ?_ (pw_below_drewN (Below.refl _ _) _))⟩, ⟨by repeat (first | exact HO3a.out | refine pw_own_below ?_ (pw_below_drewN (Below.refl _ _) _))⟩, ⟨by repeat (first | exact HB.out | apply pw_below_drewN | apply below_alloc)⟩⟩
   case round =>
    clear HO2a HO3a HB
    obtain ⟨k, ys, zs, hk, rfl, HY, HZ, HJY, HJZ, HO2, HO3, HB⟩ := hrel
    by_cases hlt : k < H1
    ·
     obtain ⟨x, hx⟩ : ∃ x, re0.getD k 0 = x := ⟨_, rfl⟩
     obtain ⟨y, hy⟩ : ∃ y, im0.getD k 0 = y := ⟨_, rfl⟩
     have hyk := HJY.out k hlt
     have hzk := HJZ.out k hlt
     rw [if_neg (by omega), hx] at hyk
     rw [if_neg (by omega), hy] at hzk
     have rx := rng_at HRG.out k (by rw [HLR.out]; exact hlt)
     have ry := rng_at HRI.out k (by rw [HLI.out]; exact hlt)
     rw [hx] at rx
     rw [hy] at ry
     obtain ⟨p, hp⟩ : ∃ p, divR x ((2 ^ sh : Nat) : Int) = p := ⟨_, rfl⟩
     obtain ⟨q, hq⟩ : ∃ q, divR y ((2 ^ sh : Nat) : Int) = q := ⟨_, rfl⟩
     have HX := Aside0.mk hx
     have HYY := Aside0.mk hy
     have HRX := Aside0.mk rx
     have HRY := Aside0.mk ry
     have HP := Aside0.mk hp
     have HQ := Aside0.mk hq
     have HYK := Aside0.mk hyk
     have HZK := Aside0.mk hzk
     have c2 := own_cell HO2.out k hlt
     have c3 := own_cell HO3.out k hlt
     rw [HYK.out] at c2
     rw [HZK.out] at c3
     have f2 := (own_free HO2.out k hlt).2
     have f3 := (own_free HO3.out k hlt).2
     have j0 : (0 : Int) ≤ (k : Int) := by omega
     have j1 : (k : Int) < (H1 : Int) := by omega
     clear hx hy hyk hzk rx ry hp hq
     go_wp2
     go_region_with (first
      | (go_at_call 47; (with_reducible refine (half_s x sh p _ HRX.out hsh62 HP.out).mono ?_); rintro e_ wk ⟨rfl, Sm⟩; have nO2 := Aside0.mk (pw_own_below (by repeat (first | exact HO2.out | refine pw_own_below ?_ (pw_below_drewN (Below.refl _ _) _) | refine pw_own_below ?_ (below_drew1 (Below.refl _ _)))) Sm); have nO3 := Aside0.mk (pw_own_below (by repeat (first | exact HO3.out | refine pw_own_below ?_ (pw_below_drewN (Below.refl _ _) _) | refine pw_own_below ?_ (below_drew1 (Below.refl _ _)))) Sm); have nB := Aside0.mk (below_then (by repeat (first | exact HB.out | apply pw_below_drewN | apply below_drew1)) (Below.size (by repeat (first | exact HB.out | apply pw_below_drewN | apply below_drew1))) Sm); clear HO2 HO3 HB Sm; have HO2 := nO2; have HO3 := nO3; have HB := nB; clear nO2 nO3 nB; have d2 := own_cell HO2.out k hlt; have d3 := own_cell HO3.out k hlt; rw [HYK.out] at d2; rw [HZK.out] at d3; have e2 := (own_free HO2.out k hlt).2; have e3 := (own_free HO3.out k hlt).2; have d4 := own_cell (own_setCell HO3.out (p := ⟨g2, k, none⟩) (by simpa [Value.ownBlock] using hne) (.int .i64 p)) k hlt; rw [HZK.out] at d4; have e4 := (own_free (own_setCell HO3.out (p := ⟨g2, k, none⟩) (by simpa [Value.ownBlock] using hne) (.int .i64 p)) k hlt).2; have d5 := own_cell (own_setCell HO2.out (p := ⟨g3, k, none⟩) (by simpa [Value.ownBlock] using fun h : g3 = g2 => hne h.symm) (.int .i64 q)) k hlt; rw [HYK.out] at d5; have e5 := (own_free (own_setCell HO2.out (p := ⟨g3, k, none⟩) (by simpa [Value.ownBlock] using fun h : g3 = g2 => hne h.symm) (.int .i64 q)) k hlt).2)
      | (go_at_call 47; (with_reducible refine (half_s y sh q _ HRY.out hsh62 HQ.out).mono ?_); rintro e_ wk ⟨rfl, Sm⟩; have nO2 := Aside0.mk (pw_own_below (by repeat (first | exact HO2.out | refine pw_own_below ?_ (pw_below_drewN (Below.refl _ _) _) | refine pw_own_below ?_ (below_drew1 (Below.refl _ _)))) Sm); have nO3 := Aside0.mk (pw_own_below (by repeat (first | exact HO3.out | refine pw_own_below ?_ (pw_below_drewN (Below.refl _ _) _) | refine pw_own_below ?_ (below_drew1 (Below.refl _ _)))) Sm); have nB := Aside0.mk (below_then (by repeat (first | exact HB.out | apply pw_below_drewN | apply below_drew1)) (Below.size (by repeat (first | exact HB.out | apply pw_below_drewN | apply below_drew1))) Sm); clear HO2 HO3 HB Sm; have HO2 := nO2; have HO3 := nO3; have HB := nB; clear nO2 nO3 nB; have d2 := own_cell HO2.out k hlt; have d3 := own_cell HO3.out k hlt; rw [HYK.out] at d2; rw [HZK.out] at d3; have e2 := (own_free HO2.out k hlt).2; have e3 := (own_free HO3.out k hlt).2; have d4 := own_cell (own_setCell HO3.out (p := ⟨g2, k, none⟩) (by simpa [Value.ownBlock] using hne) (.int .i64 p)) k hlt; rw [HZK.out] at d4; have e4 := (own_free (own_setCell HO3.out (p := ⟨g2, k, none⟩) (by simpa [Value.ownBlock] using hne) (.int .i64 p)) k hlt).2; have d5 := own_cell (own_setCell HO2.out (p := ⟨g3, k, none⟩) (by simpa [Value.ownBlock] using fun h : g3 = g2 => hne h.symm) (.int .i64 q)) k hlt; rw [HYK.out] at d5; have e5 := (own_free (own_setCell HO2.out (p := ⟨g3, k, none⟩) (by simpa [Value.ownBlock] using fun h : g3 = g2 => hne h.symm) (.int .i64 q)) k hlt).2))
     all_goals
      go_wp2
      go_roundw
      case rel =>
       have s2 := own_store HO2.out (k : Int) p
       rw [Int.toNat_natCast] at s2
       have s3 := own_store (own_setCell HO3.out (p := ⟨g2, k, none⟩) (by simpa [Value.ownBlock] using hne) (.int .i64 p)) (k : Int) q
       rw [Int.toNat_natCast] at s3
       have s4 := own_setCell s2.1 (p := ⟨g3, k, none⟩) (by simpa [Value.ownBlock] using fun h : g3 = g2 => hne h.symm) (.int .i64 q)
       refine ⟨k + 1, ys.set k p, zs.set k q, by omega, by go_num, ⟨by rw [List.length_set, HY.out]⟩, ⟨by rw [List.length_set, HZ.out]⟩, ⟨fun j hj => ?_⟩, ⟨fun j hj => ?_⟩, ⟨s4⟩, ⟨s3.1⟩, ⟨Below.setCell (Below.setCell HB.out hb2 _) hb3 _⟩⟩
       ·
        have := set_half (s := sh) HY.out HLR.out hlt HJY.out j hj
        rw [HX.out, HP.out] at this
        exact this
       ·
        have := set_half (s := sh) HZ.out HLI.out hlt HJZ.out j hj
        rw [HYY.out, HQ.out] at this
        exact this
      case measure => simp [intOf]; omega
    ·
     obtain rfl : H1 = k := by omega
     go_wp2
     go_ret3
     refine ⟨_, _, rfl, ?_, ?_, below_then HB3.out HB3.out.size HB.out⟩
     ·
      have hU : ys = halfL re0 sh := row_ext (by rw [HY.out, halfL_length, HLR.out]) (fun j hj => by rw [HY.out] at hj; rw [HJY.out j hj, if_pos hj])
      rw [← hU]
      exact Kd.R_lower (Kd.R_of_own (enc := Value.int .i64) (h1 := fun _ => rfl) (ok := fun k_ => some k_ ≠ (Value.slice (some ⟨g3, 0, none⟩) H1 cap3).ownBlock) (xs := ys) (by rw [HY.out]; (first | exact HO2.out | exact Kd.R_mono HO2.out (fun _ _ => trivial) | exact Kd.R_mono HO2.out (fun _ hk => hk.1))) (fun k hk => by injection hk with hk; simp only at hk; rw [← hk]; simpa [Value.ownBlock] using hne)) HB3.out.size
     ·
      have hU : zs = halfL im0 sh := row_ext (by rw [HZ.out, halfL_length, HLI.out]) (fun j hj => by rw [HZ.out] at hj; rw [HJZ.out j hj, if_pos hj])
      rw [← hU]
      exact Kd.R_lower (Kd.R_of_own (enc := Value.int .i64) (h1 := fun _ => rfl) (ok := fun k_ => some k_ ≠ (Value.slice (some ⟨g2, 0, none⟩) H1 cap2).ownBlock) (xs := zs) (by rw [HZ.out]; (first | exact HO3.out | exact Kd.R_mono HO3.out (fun _ _ => trivial) | exact Kd.R_mono HO3.out (fun _ hk => hk.1))) (fun k hk => by injection hk with hk; simp only at hk; rw [← hk]; simpa [Value.ownBlock] using fun h : g3 = g2 => hne h.symm)) HB3.out.size
theorem bins_no (N c : Nat) (A : Option Addr) (w : World) (hm : fftMay N = false) (hN : N ≤ 1000000) :
  Calls Tryd.prog 50 #[.slice A N c] w fun e w' => ∃ v0_ v1_ : Value, e = .returned (.tuple #[v0_, v1_, .int .i64 0]) ∧
   Kd.R (Kd.int .i64) 3 w' w.heap.size (fun k_ => some k_ ≠ (v1_ : Value).ownBlock) v0_ [] ∧ Kd.R (Kd.int .i64) 3 w' w.heap.size (fun k_ => some k_ ≠ (v0_ : Value).ownBlock) v1_ [] ∧ Below w.heap.size w w' := by
 have HMY := Aside0.mk (by rw [fft_may_f, hm] : fft_may.f (N : Int) = some false)
 clear hm
 go_enter Tryd.func50, Tryd.ntmps50
 go_wp2_with (go_at_call 76; (with_reducible refine (fft_may.calls _ _ _ HMY.out).mono ?_); rintro e w1 ⟨rfl, ⟨nd, rfl⟩⟩)
 go_ret3
 exact ⟨_, _, rfl, Kd.R_nil _ _ _ _ _, Kd.R_nil _ _ _ _ _, by repeat (first | exact Below.refl _ _ | apply below_alloc | apply pw_below_drewN)⟩
theorem fft_Bins.calls (A0 : Option Addr) (c0 : Nat) (l0 : List Int) (r0 r1 : List Int) (r2 : Int) (w : World) (hG : GlobA w) (hr0 : Kd.C (Kd.int .i64) w A0 l0.length l0) (hc0 : l0.length ≤ c0) (h : fft_Bins.f l0 = some (r0, r1, r2)) :
  Calls Tryd.prog 50 #[.slice A0 l0.length c0] w fun e w' => ∃ v0_ v1_ : Value, e = .returned (.tuple #[v0_, v1_, .int .i64 r2]) ∧
   Kd.R (Kd.int .i64) 3 w' w.heap.size (fun k_ => some k_ ≠ (v1_ : Value).ownBlock) v0_ r0 ∧ Kd.R (Kd.int .i64) 3 w' w.heap.size (fun k_ => some k_ ≠ (v0_ : Value).ownBlock) v1_ r1 ∧ Below w.heap.size w w' := by
 unfold fft_Bins.f at h
 split at h
 case isFalse => cases h
 rename_i hz
 have h := Option.some.inj h
 simp only [Bool.and_eq_true, decide_eq_true_eq, List.all_eq_true] at hz
 unfold binsF at h
 by_cases hm : fftMay l0.length = true
 ·
  rw [if_pos hm] at h
  simp only [Prod.mk.injEq] at h
  obtain ⟨rfl, rfl, rfl⟩ := h
  exact bins_yes (l0.length / 2) l0.length c0 A0 l0 w hG rfl hr0 (fun x hx => hz.2 x hx) hm rfl hc0
 ·
  rw [if_neg hm] at h
  simp only [Prod.mk.injEq] at h
  obtain ⟨rfl, rfl, rfl⟩ := h
  exact bins_no l0.length c0 A0 w (by simpa using hm) hz.1
end Go.Proofs.YtmhacdnnnebpdaaDoor.PFrontStream
