-- Written by a program of this work (wip/tools) for this claim; Lean checks it.
import Derived.Test.YtphmfecabbellaaDoorPFftBlockx0
namespace Go.Proofs.YtphmfecabbellaaDoor.PFftBlock
open Go.RowKit Go.Proofs.YtphmfecabbellaaDoorW.PrintWords Go.Proofs.YtphmfecabbellaaDoorW.PrintLast Go.Proofs.YtphmfecabbellaaDoorW.PrintMore
attribute [local go_sem] max2_int min2_int max_two min_two max_three min_three max_four min_four   -- for this text's walks alone
set_option linter.unusedVariables false
set_option linter.unusedSimpArgs false

-- NOT PRINTED: function 34 (spin_sum)

/-! ### round_Parts: function 32 -/
def round_Parts.f (a0 : Int) (a1 : Int) : Option (Int × Int) := if a1 < 1 then (some (0, 0)) else (if a1 = 0 then (none) else (if (Int.tmod a0 a1) < 0 then (some (wrap64 ((wrap64 (Int.tdiv a0 a1)) - 1), wrap64 ((Int.tmod a0 a1) + a1))) else (some (wrap64 (Int.tdiv a0 a1), Int.tmod a0 a1))))
set_option maxHeartbeats 8000000 in
set_option maxRecDepth 100000 in
theorem round_Parts.calls (a0 : Int) (a1 : Int) (r1 : Int) (r2 : Int) (w : World) (h : round_Parts.f a0 a1 = some (r1, r2)) :
    Calls Tryd.prog 32 #[.int .i64 a0, .int .i64 a1] w fun e w' => e = .returned (.tuple #[.int .i64 r1, .int .i64 r2]) ∧ Drawn0 w w' := by
  have H : (if a1 < 1 then (some (0, 0)) else (if a1 = 0 then (none) else (if (Int.tmod a0 a1) < 0 then (some (wrap64 ((wrap64 (Int.tdiv a0 a1)) - 1), wrap64 ((Int.tmod a0 a1) + a1))) else (some (wrap64 (Int.tdiv a0 a1), Int.tmod a0 a1))))) = some (r1, r2) := h
  clear h
  by_cases c3 : a1 < 1
  · rw [if_pos c3] at H
    have c3b0 : decide (a1 < 1) = true := decide_eq_true c3
    clear c3
    simp only [Option.some.injEq, Prod.mk.injEq] at H
    obtain ⟨rfl, rfl⟩ := H
    go_enter Tryd.func32, Tryd.ntmps32
    go_wp2
    repeat (go_quiet (fail); try go_wp2)
    go_ret2
    exact ⟨by first | rfl | (simp; done) | (simp [*]; done), by repeat (first | exact Drawn0.refl _ | apply Drawn0.step)⟩
  · rw [if_neg c3] at H
    have c3b0 : decide (a1 < 1) = false := decide_eq_false c3
    clear c3
    by_cases c4 : a1 = 0
    · rw [if_pos c4] at H
      exact absurd H (by simp)
    · rw [if_neg c4] at H
      have c4b0 : (a1 == 0) = false := beq_eq_false_iff_ne.mpr c4
      have c4b1 : (a1 != 0) = true := bne_iff_ne.mpr c4
      by_cases c5 : (Int.tmod a0 a1) < 0
      · rw [if_pos c5] at H
        have c5b0 : decide ((Int.tmod a0 a1) < 0) = true := decide_eq_true c5
        clear c5
        simp only [Option.some.injEq, Prod.mk.injEq] at H
        obtain ⟨rfl, rfl⟩ := H
        go_enter Tryd.func32, Tryd.ntmps32
        go_wp2
        repeat (go_quiet (fail); try go_wp2)
        go_ret2
        exact ⟨by first | rfl | (simp; done) | (simp [*]; done), by repeat (first | exact Drawn0.refl _ | apply Drawn0.step)⟩
      · rw [if_neg c5] at H
        have c5b0 : decide ((Int.tmod a0 a1) < 0) = false := decide_eq_false c5
        clear c5
        simp only [Option.some.injEq, Prod.mk.injEq] at H
        obtain ⟨rfl, rfl⟩ := H
        go_enter Tryd.func32, Tryd.ntmps32
        go_wp2
        repeat (go_quiet (fail); try go_wp2)
        go_ret2
        exact ⟨by first | rfl | (simp; done) | (simp [*]; done), by repeat (first | exact Drawn0.refl _ | apply Drawn0.step)⟩

/-! ### circle_Rest: function 54 -/
def circle_Rest.f (a0 : Int) : Option (Int) := (round_Parts.f a0 64).bind fun bt101 => (some bt101.2)
set_option maxHeartbeats 8000000 in
set_option maxRecDepth 100000 in
theorem circle_Rest.calls (a0 : Int) (r : Int) (w : World) (h : circle_Rest.f a0 = some r) :
    Calls Tryd.prog 54 #[.int .i64 a0] w fun e w' => e = .returned (.int .i64 r) ∧ Drawn0 w w' := by
  have H : ((round_Parts.f a0 64).bind fun bt101 => (some bt101.2)) = some r := h
  clear h
  replace H := Option.bind_eq_some_iff.mp H
  obtain ⟨⟨t101, t102⟩, A20, H⟩ := H
  replace H : (some t102) = some r := H
  have A2 := Aside0.mk A20
  clear A20
  obtain rfl := Option.some.inj H
  go_enter Tryd.func54, Tryd.ntmps54
  go_wp2_with (first | ((with_reducible refine gate_callee (f := 32) rfl ?_); refine goesL_ (some 7) rfl rfl Tryd.func32 (by kernel_rfl) rfl #[.int .i64 a0, .int .i64 64] rfl (by (try simp only [List.map_toArray, List.map_cons, List.map_nil]); first | done | rfl | (simp only [List.length_drop, List.length_take]; rfl)) ?_; (with_reducible refine (round_Parts.calls a0 64 t101 t102 _ A2.out).mono ?_); rintro e w' ⟨rfl, ⟨nd, rfl⟩⟩; refine ⟨_, rfl, ?_⟩))
  go_ret
  exact ⟨by first | rfl | (simp; done) | (simp [*]; done), by repeat (first | exact Drawn0.refl _ | apply Drawn0.step)⟩

/-! ### circle_Cos: function 35 -/
def cosTab : List Int := [16384, 16305, 16069, 15679, 15137, 14449, 13623, 12665, 11585, 10394, 9102, 7723, 6270, 4756, 3196, 1606, 0]
/-- The package variable reads as the text lays it. -/
def GlobA (w : World) : Prop := 0 < w.heap.size ∧ ∀ j : Nat, j < 17 → w.cell? ⟨0, j, none⟩ = some (.int .i64 (cosTab.getD j 0))
theorem GlobA.below {w w' : World} (h : GlobA w) (hb : Below w.heap.size w w') : GlobA w' :=
  ⟨Nat.lt_of_lt_of_le h.1 hb.size, fun j hj => by rw [hb.cell (p := ⟨0, j, none⟩) h.1]; exact h.2 j hj⟩
theorem GlobA.drewN {w : World} (h : GlobA w) (n : Nat) : GlobA (w.drewN n) := h
def ci64b (x : Int) : Bool := decide (-9223372036854775808 ≤ x) && decide (x ≤ 9223372036854775807)
/-- The cosine of a place from 0 to 63. -/
def cosAt (r : Int) : Int := if r > 32 then (if 64 - r > 16 then -(cosTab.getD (32 - (64 - r)).toNat 0) else cosTab.getD (64 - r).toNat 0) else (if r > 16 then -(cosTab.getD (32 - r).toNat 0) else cosTab.getD r.toNat 0)
def circle_Cos.f (a0 : Int) : Option (Int) := if ci64b a0 = true then (some (cosAt (a0 % 64))) else (none)
theorem rest_some {x : Int} (hx : ci64b x = true) : circle_Rest.f x = some (x % 64) := by
  have hx' : -9223372036854775808 ≤ x ∧ x ≤ 9223372036854775807 := by simpa [ci64b] using hx
  have e1 := Int.tmod_eq_emod (a := x) (b := 64)
  have m0 := Int.emod_nonneg x (show (64 : Int) ≠ 0 by decide)
  have m1 := Int.emod_lt_of_pos x (show (0 : Int) < 64 by decide)
  unfold circle_Rest.f round_Parts.f
  rw [if_neg (by decide), if_neg (by decide)]
  by_cases h : 0 ≤ x ∨ (64 : Int) ∣ x
  · rw [if_pos h] at e1
    rw [if_neg (by omega), Option.bind_some, e1]
    simp
  · rw [if_neg h] at e1
    have e2 : ((Int.natAbs 64 : Nat) : Int) = 64 := rfl
    rw [e2] at e1
    rw [if_pos (by omega), Option.bind_some, e1, show wrap64 (x % 64 - 64 + 64) = x % 64 by unfold wrap64; omega]
theorem cosTab_le (j : Nat) : 0 ≤ cosTab.getD j 0 ∧ cosTab.getD j 0 ≤ 16384 := by
  by_cases h : j < 17
  · exact (by decide : ∀ i : Fin 17, 0 ≤ cosTab.getD i.1 0 ∧ cosTab.getD i.1 0 ≤ 16384) ⟨j, h⟩
  · rw [List.getD_eq_getElem?_getD, List.getElem?_eq_none (by simp [cosTab]; omega)]
    decide
set_option maxHeartbeats 8000000 in
theorem circle_Cos.calls (a0 : Int) (r : Int) (w : World) (hG : GlobA w) (h : circle_Cos.f a0 = some r) :
    Calls Tryd.prog 35 #[.int .i64 a0] w fun e w' => e = .returned (.int .i64 r) ∧ Drawn0 w w' := by
  have hx : ci64b a0 = true := by
    unfold circle_Cos.f at h
    split at h
    · assumption
    · cases h
  have HR : Aside0 (cosAt (a0 % 64) = r) := by
    unfold circle_Cos.f at h
    rw [if_pos hx] at h
    exact ⟨Option.some.inj h⟩
  have HP := Aside0.mk (rest_some hx)
  have m0 := Int.emod_nonneg a0 (show (64 : Int) ≠ 0 by decide)
  have m1 := Int.emod_lt_of_pos a0 (show (0 : Int) < 64 by decide)
  clear h hx
  obtain ⟨q, hq⟩ : ∃ q, a0 % 64 = q := ⟨_, rfl⟩
  rw [hq] at HR HP m0 m1
  clear hq
  have HG := Aside0.mk hG
  clear hG
  have cell : ∀ i : Int, 0 ≤ i → i < 17 → Aside0 (w.cell? ⟨0, i.toNat, none⟩ = some (.int .i64 (cosTab.getD i.toNat 0))) := fun i h0 h1 => ⟨HG.out.2 i.toNat (by omega)⟩
  have rng := cosTab_le
  by_cases c1 : q > 32
  · have d1 : decide (32 < q) = true := decide_eq_true c1
    by_cases c2 : 64 - q > 16
    · have d2 : decide (16 < 64 - q) = true := decide_eq_true c2
      have HR2 : Aside0 (r = -(cosTab.getD (32 - (64 - q)).toNat 0)) := ⟨by rw [← HR.out, cosAt, if_pos c1, if_pos c2]⟩
      have hc := (cell (32 - (64 - q)) (by omega) (by omega)).out
      have hb := rng (32 - (64 - q)).toNat
      obtain ⟨v, hv⟩ : ∃ v, cosTab.getD (32 - (64 - q)).toNat 0 = v := ⟨_, rfl⟩
      rw [hv] at hc hb HR2
      clear hv HR cell rng
      have hb0 := hb.1
      have hb1 := hb.2
      clear hb
      go_enter Tryd.func35, Tryd.ntmps35
      go_wp2_with (first | (go_at_call 54; refine (circle_Rest.calls _ _ _ HP.out).mono ?_; rintro e w' ⟨rfl, ⟨nd, rfl⟩⟩) | go_in)
      all_goals
        go_ret
        exact ⟨by rw [HR2.out]; rfl, ⟨_, rfl⟩⟩
    · have d2 : decide (16 < 64 - q) = false := decide_eq_false c2
      have HR2 : Aside0 (r = cosTab.getD (64 - q).toNat 0) := ⟨by rw [← HR.out, cosAt, if_pos c1, if_neg c2]⟩
      have hc := (cell (64 - q) (by omega) (by omega)).out
      have hb := rng (64 - q).toNat
      obtain ⟨v, hv⟩ : ∃ v, cosTab.getD (64 - q).toNat 0 = v := ⟨_, rfl⟩
      rw [hv] at hc hb HR2
      clear hv HR cell rng
      have hb0 := hb.1
      have hb1 := hb.2
      clear hb
      go_enter Tryd.func35, Tryd.ntmps35
      go_wp2_with (first | (go_at_call 54; refine (circle_Rest.calls _ _ _ HP.out).mono ?_; rintro e w' ⟨rfl, ⟨nd, rfl⟩⟩) | go_in)
      all_goals
        go_ret
        exact ⟨by rw [HR2.out]; rfl, ⟨_, rfl⟩⟩
  · have d1 : decide (32 < q) = false := decide_eq_false c1
    by_cases c2 : q > 16
    · have d2 : decide (16 < q) = true := decide_eq_true c2
      have HR2 : Aside0 (r = -(cosTab.getD (32 - q).toNat 0)) := ⟨by rw [← HR.out, cosAt, if_neg c1, if_pos c2]⟩
      have hc := (cell (32 - q) (by omega) (by omega)).out
      have hb := rng (32 - q).toNat
      obtain ⟨v, hv⟩ : ∃ v, cosTab.getD (32 - q).toNat 0 = v := ⟨_, rfl⟩
      rw [hv] at hc hb HR2
      clear hv HR cell rng
      have hb0 := hb.1
      have hb1 := hb.2
      clear hb
      go_enter Tryd.func35, Tryd.ntmps35
      go_wp2_with (first | (go_at_call 54; refine (circle_Rest.calls _ _ _ HP.out).mono ?_; rintro e w' ⟨rfl, ⟨nd, rfl⟩⟩) | go_in)
      all_goals
        go_ret
        exact ⟨by rw [HR2.out]; rfl, ⟨_, rfl⟩⟩
    · have d2 : decide (16 < q) = false := decide_eq_false c2
      have HR2 : Aside0 (r = cosTab.getD (q).toNat 0) := ⟨by rw [← HR.out, cosAt, if_neg c1, if_neg c2]⟩
      have hc := (cell (q) (by omega) (by omega)).out
      have hb := rng (q).toNat
      obtain ⟨v, hv⟩ : ∃ v, cosTab.getD (q).toNat 0 = v := ⟨_, rfl⟩
      rw [hv] at hc hb HR2
      clear hv HR cell rng
      have hb0 := hb.1
      have hb1 := hb.2
      clear hb
      go_enter Tryd.func35, Tryd.ntmps35
      go_wp2_with (first | (go_at_call 54; refine (circle_Rest.calls _ _ _ HP.out).mono ?_; rintro e w' ⟨rfl, ⟨nd, rfl⟩⟩) | go_in)
      all_goals
        go_ret
        exact ⟨by rw [HR2.out]; rfl, ⟨_, rfl⟩⟩

/-! ### spin_Real: function 16 -/
theorem turn_info : (Tryd.prog.info? 3).map (fun i => (i.zero, i.size, i.bytes)) = some (some (.int .i64 0), 1, 8) := by kernel_rfl
theorem own_free {W : World} {b g h cap : Nat} {xs : List Int} (HO : W.ownsRow b 3 1 (.slice (some ⟨g, 0, none⟩) h cap) h (nums .i64 xs)) (q : Nat) (hq : q < h) : (∃ y : Int, W.cell? ⟨g, q, none⟩ = some (.int .i64 y)) ∧ W.frozen? ⟨g, q, none⟩ = false := by
  have := own_at HO (q : Int) (by omega) (by omega)
  rw [Int.toNat_natCast] at this
  exact ⟨⟨_, this.1⟩, this.2⟩
theorem sp_ad {w : World} {A : Option Addr} {n : Nat} {xs : List Int} (h : (Kd.int .i64).C w A n xs) (hn : 0 < n) : ∃ ad, A = some ad ∧ ∀ j : Nat, j < n → w.cell? (ad.add j) = some (.int .i64 (xs.getD j 0)) := by
  obtain ⟨ad, ha, _⟩ := Kd.at_int h 0 (by omega) (by omega)
  refine ⟨ad, ha, fun j hj => ?_⟩
  obtain ⟨ad2, ha2, h2⟩ := Kd.at_int h (j : Int) (by omega) (by omega)
  rw [ha] at ha2
  obtain rfl := Option.some.inj ha2
  rw [Int.toNat_natCast] at h2
  rw [h2, rd, Int.toNat_natCast]
theorem sp_cell {w : World} {ad : Addr} {n : Nat} {xs : List Int} (h : (Kd.int .i64).C w (some ad) n xs) (j : Nat) (hj : j < n) : w.cell? (ad.add j) = some (.int .i64 (xs.getD j 0)) := by
  obtain ⟨ad2, ha, hw⟩ := sp_ad h (by omega)
  obtain rfl := Option.some.inj ha
  exact hw j hj

def sp_sum (l : List Int) (T : Int → Int) (s : Nat) : Nat → Int
  | 0 => 0
  | n + 1 => wrap64 (sp_sum l T s n + wrap64 (l.getD n 0 * T ((n : Int) * (s : Int))))
def sp_may (h : Nat) : Bool := h == 1 || h == 2 || h == 4 || h == 8 || h == 16 || h == 32
def sp_part (l : List Int) (T : Int → Int) : Int := if sp_may l.length = true then sp_sum l T (32 / l.length) l.length else 0
def cosT (x : Int) : Int := cosAt (x % 64)
def sinT (x : Int) : Int := cosAt ((x % 64 - 16) % 64)
theorem sp_mask : ∀ h : Fin 33, h.1 = 0 ∨ sp_may h.1 = true ∨ (Go.bits .and .i64 ((h.1 : Nat) : Int) (((h.1 : Nat) : Int) - 1) != 0) = true := by decide +kernel
theorem sp_may_cases {h : Nat} (hm : sp_may h = true) : h = 1 ∨ h = 2 ∨ h = 4 ∨ h = 8 ∨ h = 16 ∨ h = 32 := by
  simp only [sp_may, Bool.or_eq_true, beq_iff_eq] at hm
  omega
theorem sp_cos {x : Int} (h0 : -9223372036854775808 ≤ x) (h1 : x ≤ 9223372036854775807) : circle_Cos.f x = some (cosT x) := by
  unfold circle_Cos.f
  rw [if_pos (by simp [ci64b, h0, h1])]
  rfl
set_option maxHeartbeats 16000000 in
theorem sum_cos (A0 : Option Addr) (h c0 : Nat) (l0 : List Int) (w : World) (hG : GlobA w) (hl : l0.length = h) (hr0 : Kd.C (Kd.int .i64) w A0 h l0) (hh : h ≤ 1000000) :
    Calls Tryd.prog 34 #[.slice A0 h c0, .func (.func 35) #[] #[]] w fun e w' => e = .returned (.int .i64 (sp_part l0 cosT)) ∧ Drawn0 w w' := by
  have HG := Aside0.mk hG
  have HC := Aside0.mk hr0
  clear hG hr0
  rcases Bool.eq_false_or_eq_true (sp_may h) with hm | hm
  · have HV : Aside0 (sp_part l0 cosT = sp_sum l0 cosT (32 / h) h) := ⟨by unfold sp_part; rw [hl, if_pos hm]⟩
    have HL := Aside0.mk hl
    clear hl
    rcases sp_may_cases hm with rfl | rfl | rfl | rfl | rfl | rfl
    · clear hm hh
      go_enter Tryd.func34, Tryd.ntmps34
      go_wp2
      go_loopw [6, 26] (fun v6 v wr => ∃ (i : Nat), i ≤ 1 ∧ v = .int .i64 (i : Int) ∧ v6 = .int .i64 (sp_sum l0 cosT (32 / 1) i) ∧ Aside0 (∃ k, wr = w.drewN k)) (fun _ v _ => 1 - (intOf v).toNat)
      case atStart => exact ⟨0, by omega, rfl, rfl, ⟨⟨0, rfl⟩⟩⟩
      case round =>
        obtain ⟨i, hi, rfl, rfl, HK⟩ := hrel
        obtain ⟨k, rfl⟩ := HK.out
        by_cases hlt : i < 1
        · obtain ⟨ad, rfl, hcs⟩ := sp_ad HC.out (by omega)
          have hcell := sp_cell HC.out i hlt
          obtain ⟨x, hx⟩ : ∃ x, l0.getD i 0 = x := ⟨_, rfl⟩
          rw [hx] at hcell
          obtain ⟨s, hs⟩ : ∃ s, sp_sum l0 cosT (32 / 1) i = s := ⟨_, rfl⟩
          have HN : Aside0 (sp_sum l0 cosT (32 / 1) (i + 1) = wrap64 (s + wrap64 (x * cosT ((i : Int) * 32)))) := ⟨by rw [sp_sum, hs, hx]; rfl⟩
          have HF : Aside0 (circle_Cos.f ((i : Int) * 32) = some (cosT ((i : Int) * 32))) := ⟨sp_cos (by omega) (by omega)⟩
          clear hcs hx
          rw [hs]
          clear hs
          go_wp2_with (go_at_call 35; (with_reducible refine (circle_Cos.calls _ _ _ (HG.out.drewN _) HF.out).mono ?_); rintro e w' ⟨rfl, ⟨nd, rfl⟩⟩)
          go_roundw
          case rel => exact ⟨i + 1, by omega, by go_num, by rw [HN.out], ⟨⟨_, rfl⟩⟩⟩
          case measure => simp [intOf]; omega
        · obtain rfl : i = 1 := by omega
          go_wp2
          go_ret
          exact ⟨by rw [HV.out]; rfl, ⟨⟨_, rfl⟩⟩⟩
    · clear hm hh
      go_enter Tryd.func34, Tryd.ntmps34
      go_wp2
      go_loopw [6, 26] (fun v6 v wr => ∃ (i : Nat), i ≤ 2 ∧ v = .int .i64 (i : Int) ∧ v6 = .int .i64 (sp_sum l0 cosT (32 / 2) i) ∧ Aside0 (∃ k, wr = w.drewN k)) (fun _ v _ => 2 - (intOf v).toNat)
      case atStart => exact ⟨0, by omega, rfl, rfl, ⟨⟨0, rfl⟩⟩⟩
      case round =>
        obtain ⟨i, hi, rfl, rfl, HK⟩ := hrel
        obtain ⟨k, rfl⟩ := HK.out
        by_cases hlt : i < 2
        · obtain ⟨ad, rfl, hcs⟩ := sp_ad HC.out (by omega)
          have hcell := sp_cell HC.out i hlt
          obtain ⟨x, hx⟩ : ∃ x, l0.getD i 0 = x := ⟨_, rfl⟩
          rw [hx] at hcell
          obtain ⟨s, hs⟩ : ∃ s, sp_sum l0 cosT (32 / 2) i = s := ⟨_, rfl⟩
          have HN : Aside0 (sp_sum l0 cosT (32 / 2) (i + 1) = wrap64 (s + wrap64 (x * cosT ((i : Int) * 16)))) := ⟨by rw [sp_sum, hs, hx]; rfl⟩
          have HF : Aside0 (circle_Cos.f ((i : Int) * 16) = some (cosT ((i : Int) * 16))) := ⟨sp_cos (by omega) (by omega)⟩
          clear hcs hx
          rw [hs]
          clear hs
          go_wp2_with (go_at_call 35; (with_reducible refine (circle_Cos.calls _ _ _ (HG.out.drewN _) HF.out).mono ?_); rintro e w' ⟨rfl, ⟨nd, rfl⟩⟩)
          go_roundw
          case rel => exact ⟨i + 1, by omega, by go_num, by rw [HN.out], ⟨⟨_, rfl⟩⟩⟩
          case measure => simp [intOf]; omega
        · obtain rfl : i = 2 := by omega
          go_wp2
          go_ret
          exact ⟨by rw [HV.out]; rfl, ⟨⟨_, rfl⟩⟩⟩
    · clear hm hh
      go_enter Tryd.func34, Tryd.ntmps34
      go_wp2
      go_loopw [6, 26] (fun v6 v wr => ∃ (i : Nat), i ≤ 4 ∧ v = .int .i64 (i : Int) ∧ v6 = .int .i64 (sp_sum l0 cosT (32 / 4) i) ∧ Aside0 (∃ k, wr = w.drewN k)) (fun _ v _ => 4 - (intOf v).toNat)
      case atStart => exact ⟨0, by omega, rfl, rfl, ⟨⟨0, rfl⟩⟩⟩
      case round =>
        obtain ⟨i, hi, rfl, rfl, HK⟩ := hrel
        obtain ⟨k, rfl⟩ := HK.out
        by_cases hlt : i < 4
        · obtain ⟨ad, rfl, hcs⟩ := sp_ad HC.out (by omega)
          have hcell := sp_cell HC.out i hlt
          obtain ⟨x, hx⟩ : ∃ x, l0.getD i 0 = x := ⟨_, rfl⟩
          rw [hx] at hcell
          obtain ⟨s, hs⟩ : ∃ s, sp_sum l0 cosT (32 / 4) i = s := ⟨_, rfl⟩
          have HN : Aside0 (sp_sum l0 cosT (32 / 4) (i + 1) = wrap64 (s + wrap64 (x * cosT ((i : Int) * 8)))) := ⟨by rw [sp_sum, hs, hx]; rfl⟩
          have HF : Aside0 (circle_Cos.f ((i : Int) * 8) = some (cosT ((i : Int) * 8))) := ⟨sp_cos (by omega) (by omega)⟩
          clear hcs hx
          rw [hs]
          clear hs
          go_wp2_with (go_at_call 35; (with_reducible refine (circle_Cos.calls _ _ _ (HG.out.drewN _) HF.out).mono ?_); rintro e w' ⟨rfl, ⟨nd, rfl⟩⟩)
          go_roundw
          case rel => exact ⟨i + 1, by omega, by go_num, by rw [HN.out], ⟨⟨_, rfl⟩⟩⟩
          case measure => simp [intOf]; omega
        · obtain rfl : i = 4 := by omega
          go_wp2
          go_ret
          exact ⟨by rw [HV.out]; rfl, ⟨⟨_, rfl⟩⟩⟩
    · clear hm hh
      go_enter Tryd.func34, Tryd.ntmps34
      go_wp2
      go_loopw [6, 26] (fun v6 v wr => ∃ (i : Nat), i ≤ 8 ∧ v = .int .i64 (i : Int) ∧ v6 = .int .i64 (sp_sum l0 cosT (32 / 8) i) ∧ Aside0 (∃ k, wr = w.drewN k)) (fun _ v _ => 8 - (intOf v).toNat)
      case atStart => exact ⟨0, by omega, rfl, rfl, ⟨⟨0, rfl⟩⟩⟩
      case round =>
        obtain ⟨i, hi, rfl, rfl, HK⟩ := hrel
        obtain ⟨k, rfl⟩ := HK.out
        by_cases hlt : i < 8
        · obtain ⟨ad, rfl, hcs⟩ := sp_ad HC.out (by omega)
          have hcell := sp_cell HC.out i hlt
          obtain ⟨x, hx⟩ : ∃ x, l0.getD i 0 = x := ⟨_, rfl⟩
          rw [hx] at hcell
          obtain ⟨s, hs⟩ : ∃ s, sp_sum l0 cosT (32 / 8) i = s := ⟨_, rfl⟩
          have HN : Aside0 (sp_sum l0 cosT (32 / 8) (i + 1) = wrap64 (s + wrap64 (x * cosT ((i : Int) * 4)))) := ⟨by rw [sp_sum, hs, hx]; rfl⟩
          have HF : Aside0 (circle_Cos.f ((i : Int) * 4) = some (cosT ((i : Int) * 4))) := ⟨sp_cos (by omega) (by omega)⟩
          clear hcs hx
          rw [hs]
          clear hs
          go_wp2_with (go_at_call 35; (with_reducible refine (circle_Cos.calls _ _ _ (HG.out.drewN _) HF.out).mono ?_); rintro e w' ⟨rfl, ⟨nd, rfl⟩⟩)
          go_roundw
          case rel => exact ⟨i + 1, by omega, by go_num, by rw [HN.out], ⟨⟨_, rfl⟩⟩⟩
          case measure => simp [intOf]; omega
        · obtain rfl : i = 8 := by omega
          go_wp2
          go_ret
          exact ⟨by rw [HV.out]; rfl, ⟨⟨_, rfl⟩⟩⟩
    · clear hm hh
      go_enter Tryd.func34, Tryd.ntmps34
      go_wp2
      go_loopw [6, 26] (fun v6 v wr => ∃ (i : Nat), i ≤ 16 ∧ v = .int .i64 (i : Int) ∧ v6 = .int .i64 (sp_sum l0 cosT (32 / 16) i) ∧ Aside0 (∃ k, wr = w.drewN k)) (fun _ v _ => 16 - (intOf v).toNat)
      case atStart => exact ⟨0, by omega, rfl, rfl, ⟨⟨0, rfl⟩⟩⟩
      case round =>
        obtain ⟨i, hi, rfl, rfl, HK⟩ := hrel
        obtain ⟨k, rfl⟩ := HK.out
        by_cases hlt : i < 16
        · obtain ⟨ad, rfl, hcs⟩ := sp_ad HC.out (by omega)
          have hcell := sp_cell HC.out i hlt
          obtain ⟨x, hx⟩ : ∃ x, l0.getD i 0 = x := ⟨_, rfl⟩
          rw [hx] at hcell
          obtain ⟨s, hs⟩ : ∃ s, sp_sum l0 cosT (32 / 16) i = s := ⟨_, rfl⟩
          have HN : Aside0 (sp_sum l0 cosT (32 / 16) (i + 1) = wrap64 (s + wrap64 (x * cosT ((i : Int) * 2)))) := ⟨by rw [sp_sum, hs, hx]; rfl⟩
          have HF : Aside0 (circle_Cos.f ((i : Int) * 2) = some (cosT ((i : Int) * 2))) := ⟨sp_cos (by omega) (by omega)⟩
          clear hcs hx
          rw [hs]
          clear hs
          go_wp2_with (go_at_call 35; (with_reducible refine (circle_Cos.calls _ _ _ (HG.out.drewN _) HF.out).mono ?_); rintro e w' ⟨rfl, ⟨nd, rfl⟩⟩)
          go_roundw
          case rel => exact ⟨i + 1, by omega, by go_num, by rw [HN.out], ⟨⟨_, rfl⟩⟩⟩
          case measure => simp [intOf]; omega
        · obtain rfl : i = 16 := by omega
          go_wp2
          go_ret
          exact ⟨by rw [HV.out]; rfl, ⟨⟨_, rfl⟩⟩⟩
    · clear hm hh
      go_enter Tryd.func34, Tryd.ntmps34
      go_wp2
      go_loopw [6, 26] (fun v6 v wr => ∃ (i : Nat), i ≤ 32 ∧ v = .int .i64 (i : Int) ∧ v6 = .int .i64 (sp_sum l0 cosT (32 / 32) i) ∧ Aside0 (∃ k, wr = w.drewN k)) (fun _ v _ => 32 - (intOf v).toNat)
      case atStart => exact ⟨0, by omega, rfl, rfl, ⟨⟨0, rfl⟩⟩⟩
      case round =>
        obtain ⟨i, hi, rfl, rfl, HK⟩ := hrel
        obtain ⟨k, rfl⟩ := HK.out
        by_cases hlt : i < 32
        · obtain ⟨ad, rfl, hcs⟩ := sp_ad HC.out (by omega)
          have hcell := sp_cell HC.out i hlt
          obtain ⟨x, hx⟩ : ∃ x, l0.getD i 0 = x := ⟨_, rfl⟩
          rw [hx] at hcell
          obtain ⟨s, hs⟩ : ∃ s, sp_sum l0 cosT (32 / 32) i = s := ⟨_, rfl⟩
          have HN : Aside0 (sp_sum l0 cosT (32 / 32) (i + 1) = wrap64 (s + wrap64 (x * cosT (i : Int)))) := ⟨by rw [sp_sum, hs, hx, show ((32 / 32 : Nat) : Int) = 1 from rfl, Int.mul_one]⟩
          have HF : Aside0 (circle_Cos.f (i : Int) = some (cosT (i : Int))) := ⟨sp_cos (by omega) (by omega)⟩
          clear hcs hx
          rw [hs]
          clear hs
          go_wp2_with (go_at_call 35; (with_reducible refine (circle_Cos.calls _ _ _ (HG.out.drewN _) HF.out).mono ?_); rintro e w' ⟨rfl, ⟨nd, rfl⟩⟩)
          go_roundw
          case rel => exact ⟨i + 1, by omega, by go_num, by rw [HN.out], ⟨⟨_, rfl⟩⟩⟩
          case measure => simp [intOf]; omega
        · obtain rfl : i = 32 := by omega
          go_wp2
          go_ret
          exact ⟨by rw [HV.out]; rfl, ⟨⟨_, rfl⟩⟩⟩
  · have HV : Aside0 (sp_part l0 cosT = 0) := ⟨by unfold sp_part; rw [hl, if_neg (by rw [hm]; decide)]⟩
    have hcase : h = 0 ∨ 0 < h ∧ h ≤ 32 ∧ (Go.bits .and .i64 (h : Int) ((h : Int) - 1) != 0) = true ∨ 32 < h := by
      by_cases h1 : h ≤ 32
      · rcases sp_mask ⟨h, by omega⟩ with h2 | h2 | h2
        · exact .inl h2
        · rw [hm] at h2; cases h2
        · by_cases h3 : h = 0
          · exact .inl h3
          · exact .inr (.inl ⟨by omega, h1, h2⟩)
      · exact .inr (.inr (by omega))
    clear hl hm
    rcases hcase with rfl | ⟨h0, h1, h2⟩ | h1
    · go_enter Tryd.func34, Tryd.ntmps34
      go_wp2
      go_ret
      exact ⟨by rw [HV.out]; rfl, ⟨⟨0, rfl⟩⟩⟩
    · have hd : ((h : Int) == 0) = false := by simp; omega
      go_enter Tryd.func34, Tryd.ntmps34
      go_wp2
      go_ret
      exact ⟨by rw [HV.out]; rfl, ⟨⟨0, rfl⟩⟩⟩
    · have hd : ((h : Int) == 0) = false := by simp; omega
      go_enter Tryd.func34, Tryd.ntmps34
      go_wp2
      all_goals
        go_ret
        exact ⟨by rw [HV.out]; rfl, ⟨⟨0, rfl⟩⟩⟩
def spin_Real.f (l0 : List Int) : Option Int := if decide (l0.length ≤ 1000000) then some (sp_part l0 cosT) else none
theorem real_go (A0 : Option Addr) (h c0 : Nat) (l0 : List Int) (w : World) (hG : GlobA w) (hl : l0.length = h) (hr0 : Kd.C (Kd.int .i64) w A0 h l0) (hh : h ≤ 1000000) :
    Calls Tryd.prog 16 #[.slice A0 h c0] w fun e w' => e = .returned (.int .i64 (sp_part l0 cosT)) ∧ Drawn0 w w' := by
  have HG := Aside0.mk hG
  have HC := Aside0.mk hr0
  have HL := Aside0.mk hl
  clear hG hr0 hl
  go_enter Tryd.func16, Tryd.ntmps16
  go_wp2_with (go_at_call 34; (with_reducible refine (sum_cos A0 h c0 l0 _ HG.out HL.out HC.out hh).mono ?_); rintro e w' ⟨rfl, ⟨nd, rfl⟩⟩)
  go_ret
  exact ⟨rfl, ⟨⟨_, rfl⟩⟩⟩
theorem spin_Real.calls (A0 : Option Addr) (c0 : Nat) (l0 : List Int) (r : Int) (w : World) (hG : GlobA w) (hr0 : Kd.C (Kd.int .i64) w A0 l0.length l0) (hc0 : l0.length ≤ c0) (h : spin_Real.f l0 = some r) :
    Calls Tryd.prog 16 #[.slice A0 l0.length c0] w fun e w' => e = .returned (.int .i64 r) ∧ Drawn0 w w' := by
  unfold spin_Real.f at h
  split at h
  case isFalse => cases h
  rename_i hz
  obtain rfl := Option.some.inj h
  exact real_go A0 _ c0 l0 w hG rfl hr0 (of_decide_eq_true hz)

/-! ### circle_Sin: function 36 -/
def circle_Sin.f (a0 : Int) : Option (Int) := (circle_Rest.f a0).bind fun t103 => ((circle_Cos.f (wrap64 (t103 - 16))).bind fun t104 => (some t104))
set_option maxHeartbeats 8000000 in
set_option maxRecDepth 100000 in
theorem circle_Sin.calls (a0 : Int) (r : Int) (w : World) (hG : GlobA w) (h : circle_Sin.f a0 = some r) :
    Calls Tryd.prog 36 #[.int .i64 a0] w fun e w' => e = .returned (.int .i64 r) ∧ Drawn0 w w' := by
  have HG := Aside0.mk hG
  clear hG
  have H : ((circle_Rest.f a0).bind fun t103 => ((circle_Cos.f (wrap64 (t103 - 16))).bind fun t104 => (some t104))) = some r := h
  clear h
  replace H := Option.bind_eq_some_iff.mp H
  obtain ⟨t103, A20, H⟩ := H
  replace H : ((circle_Cos.f (wrap64 (t103 - 16))).bind fun t104 => (some t104)) = some r := H
  have A2 := Aside0.mk A20
  clear A20
  replace H := Option.bind_eq_some_iff.mp H
  obtain ⟨t104, A30, H⟩ := H
  replace H : (some t104) = some r := H
  have A3 := Aside0.mk A30
  clear A30
  obtain rfl := Option.some.inj H
  go_enter Tryd.func36, Tryd.ntmps36
  go_wp2_with (first | ((with_reducible refine gate_callee (f := 54) rfl ?_); refine goesL_ (some 4) rfl rfl Tryd.func54 (by kernel_rfl) rfl #[.int .i64 a0] rfl (by (try simp only [List.map_toArray, List.map_cons, List.map_nil]); first | done | rfl | (simp only [List.length_drop, List.length_take]; rfl)) ?_; (with_reducible refine (circle_Rest.calls a0 t103 _ A2.out).mono ?_); rintro e w' ⟨rfl, ⟨nd, rfl⟩⟩; refine ⟨_, rfl, ?_⟩) | ((with_reducible refine gate_callee (f := 35) rfl ?_); refine goesL_ (some 6) rfl rfl Tryd.func35 (by kernel_rfl) rfl #[.int .i64 (wrap64 (t103 - 16))] rfl (by (try simp only [List.map_toArray, List.map_cons, List.map_nil]); first | done | rfl | (simp only [List.length_drop, List.length_take]; rfl)) ?_; (with_reducible refine (circle_Cos.calls (wrap64 (t103 - 16)) t104 _ ?side1 A3.out).mono ?_); (case side1 => first | exact HG.out | exact GlobA.drewN HG.out _); rintro e w' ⟨rfl, ⟨nd, rfl⟩⟩; refine ⟨_, rfl, ?_⟩))
  go_ret
  exact ⟨by first | rfl | (simp; done) | (simp [*]; done), by repeat (first | exact Drawn0.refl _ | apply Drawn0.step)⟩

/-! ### spin_Imag: function 17 -/

theorem sp_sin {x : Int} (h0 : -9223372036854775808 ≤ x) (h1 : x ≤ 9223372036854775807) : circle_Sin.f x = some (sinT x) := by
  unfold circle_Sin.f
  have m0 := Int.emod_nonneg x (show (64 : Int) ≠ 0 by decide)
  have m1 := Int.emod_lt_of_pos x (show (0 : Int) < 64 by decide)
  rw [rest_some (by simp [ci64b, h0, h1]), Option.bind_some, show wrap64 (x % 64 - 16) = x % 64 - 16 by unfold wrap64; omega, sp_cos (by omega) (by omega)]
  rfl
set_option maxHeartbeats 16000000 in
theorem sum_sin (A0 : Option Addr) (h c0 : Nat) (l0 : List Int) (w : World) (hG : GlobA w) (hl : l0.length = h) (hr0 : Kd.C (Kd.int .i64) w A0 h l0) (hh : h ≤ 1000000) :
    Calls Tryd.prog 34 #[.slice A0 h c0, .func (.func 36) #[] #[]] w fun e w' => e = .returned (.int .i64 (sp_part l0 sinT)) ∧ Drawn0 w w' := by
  have HG := Aside0.mk hG
  have HC := Aside0.mk hr0
  clear hG hr0
  rcases Bool.eq_false_or_eq_true (sp_may h) with hm | hm
  · have HV : Aside0 (sp_part l0 sinT = sp_sum l0 sinT (32 / h) h) := ⟨by unfold sp_part; rw [hl, if_pos hm]⟩
    have HL := Aside0.mk hl
    clear hl
    rcases sp_may_cases hm with rfl | rfl | rfl | rfl | rfl | rfl
    · clear hm hh
      go_enter Tryd.func34, Tryd.ntmps34
      go_wp2
      go_loopw [6, 26] (fun v6 v wr => ∃ (i : Nat), i ≤ 1 ∧ v = .int .i64 (i : Int) ∧ v6 = .int .i64 (sp_sum l0 sinT (32 / 1) i) ∧ Aside0 (∃ k, wr = w.drewN k)) (fun _ v _ => 1 - (intOf v).toNat)
      case atStart => exact ⟨0, by omega, rfl, rfl, ⟨⟨0, rfl⟩⟩⟩
      case round =>
        obtain ⟨i, hi, rfl, rfl, HK⟩ := hrel
        obtain ⟨k, rfl⟩ := HK.out
        by_cases hlt : i < 1
        · obtain ⟨ad, rfl, hcs⟩ := sp_ad HC.out (by omega)
          have hcell := sp_cell HC.out i hlt
          obtain ⟨x, hx⟩ : ∃ x, l0.getD i 0 = x := ⟨_, rfl⟩
          rw [hx] at hcell
          obtain ⟨s, hs⟩ : ∃ s, sp_sum l0 sinT (32 / 1) i = s := ⟨_, rfl⟩
          have HN : Aside0 (sp_sum l0 sinT (32 / 1) (i + 1) = wrap64 (s + wrap64 (x * sinT ((i : Int) * 32)))) := ⟨by rw [sp_sum, hs, hx]; rfl⟩
          have HF : Aside0 (circle_Sin.f ((i : Int) * 32) = some (sinT ((i : Int) * 32))) := ⟨sp_sin (by omega) (by omega)⟩
          clear hcs hx
          rw [hs]
          clear hs
          go_wp2_with (go_at_call 36; (with_reducible refine (circle_Sin.calls _ _ _ (HG.out.drewN _) HF.out).mono ?_); rintro e w' ⟨rfl, ⟨nd, rfl⟩⟩)
          go_roundw
          case rel => exact ⟨i + 1, by omega, by go_num, by rw [HN.out], ⟨⟨_, rfl⟩⟩⟩
          case measure => simp [intOf]; omega
        · obtain rfl : i = 1 := by omega
          go_wp2
          go_ret
          exact ⟨by rw [HV.out]; rfl, ⟨⟨_, rfl⟩⟩⟩
    · clear hm hh
      go_enter Tryd.func34, Tryd.ntmps34
      go_wp2
      go_loopw [6, 26] (fun v6 v wr => ∃ (i : Nat), i ≤ 2 ∧ v = .int .i64 (i : Int) ∧ v6 = .int .i64 (sp_sum l0 sinT (32 / 2) i) ∧ Aside0 (∃ k, wr = w.drewN k)) (fun _ v _ => 2 - (intOf v).toNat)
      case atStart => exact ⟨0, by omega, rfl, rfl, ⟨⟨0, rfl⟩⟩⟩
      case round =>
        obtain ⟨i, hi, rfl, rfl, HK⟩ := hrel
        obtain ⟨k, rfl⟩ := HK.out
        by_cases hlt : i < 2
        · obtain ⟨ad, rfl, hcs⟩ := sp_ad HC.out (by omega)
          have hcell := sp_cell HC.out i hlt
          obtain ⟨x, hx⟩ : ∃ x, l0.getD i 0 = x := ⟨_, rfl⟩
          rw [hx] at hcell
          obtain ⟨s, hs⟩ : ∃ s, sp_sum l0 sinT (32 / 2) i = s := ⟨_, rfl⟩
          have HN : Aside0 (sp_sum l0 sinT (32 / 2) (i + 1) = wrap64 (s + wrap64 (x * sinT ((i : Int) * 16)))) := ⟨by rw [sp_sum, hs, hx]; rfl⟩
          have HF : Aside0 (circle_Sin.f ((i : Int) * 16) = some (sinT ((i : Int) * 16))) := ⟨sp_sin (by omega) (by omega)⟩
          clear hcs hx
          rw [hs]
          clear hs
          go_wp2_with (go_at_call 36; (with_reducible refine (circle_Sin.calls _ _ _ (HG.out.drewN _) HF.out).mono ?_); rintro e w' ⟨rfl, ⟨nd, rfl⟩⟩)
          go_roundw
          case rel => exact ⟨i + 1, by omega, by go_num, by rw [HN.out], ⟨⟨_, rfl⟩⟩⟩
          case measure => simp [intOf]; omega
        · obtain rfl : i = 2 := by omega
          go_wp2
          go_ret
          exact ⟨by rw [HV.out]; rfl, ⟨⟨_, rfl⟩⟩⟩
    · clear hm hh
      go_enter Tryd.func34, Tryd.ntmps34
      go_wp2
      go_loopw [6, 26] (fun v6 v wr => ∃ (i : Nat), i ≤ 4 ∧ v = .int .i64 (i : Int) ∧ v6 = .int .i64 (sp_sum l0 sinT (32 / 4) i) ∧ Aside0 (∃ k, wr = w.drewN k)) (fun _ v _ => 4 - (intOf v).toNat)
      case atStart => exact ⟨0, by omega, rfl, rfl, ⟨⟨0, rfl⟩⟩⟩
      case round =>
        obtain ⟨i, hi, rfl, rfl, HK⟩ := hrel
        obtain ⟨k, rfl⟩ := HK.out
        by_cases hlt : i < 4
        · obtain ⟨ad, rfl, hcs⟩ := sp_ad HC.out (by omega)
          have hcell := sp_cell HC.out i hlt
          obtain ⟨x, hx⟩ : ∃ x, l0.getD i 0 = x := ⟨_, rfl⟩
          rw [hx] at hcell
          obtain ⟨s, hs⟩ : ∃ s, sp_sum l0 sinT (32 / 4) i = s := ⟨_, rfl⟩
          have HN : Aside0 (sp_sum l0 sinT (32 / 4) (i + 1) = wrap64 (s + wrap64 (x * sinT ((i : Int) * 8)))) := ⟨by rw [sp_sum, hs, hx]; rfl⟩
          have HF : Aside0 (circle_Sin.f ((i : Int) * 8) = some (sinT ((i : Int) * 8))) := ⟨sp_sin (by omega) (by omega)⟩
          clear hcs hx
          rw [hs]
          clear hs
          go_wp2_with (go_at_call 36; (with_reducible refine (circle_Sin.calls _ _ _ (HG.out.drewN _) HF.out).mono ?_); rintro e w' ⟨rfl, ⟨nd, rfl⟩⟩)
          go_roundw
          case rel => exact ⟨i + 1, by omega, by go_num, by rw [HN.out], ⟨⟨_, rfl⟩⟩⟩
          case measure => simp [intOf]; omega
        · obtain rfl : i = 4 := by omega
          go_wp2
          go_ret
          exact ⟨by rw [HV.out]; rfl, ⟨⟨_, rfl⟩⟩⟩
    · clear hm hh
      go_enter Tryd.func34, Tryd.ntmps34
      go_wp2
      go_loopw [6, 26] (fun v6 v wr => ∃ (i : Nat), i ≤ 8 ∧ v = .int .i64 (i : Int) ∧ v6 = .int .i64 (sp_sum l0 sinT (32 / 8) i) ∧ Aside0 (∃ k, wr = w.drewN k)) (fun _ v _ => 8 - (intOf v).toNat)
      case atStart => exact ⟨0, by omega, rfl, rfl, ⟨⟨0, rfl⟩⟩⟩
      case round =>
        obtain ⟨i, hi, rfl, rfl, HK⟩ := hrel
        obtain ⟨k, rfl⟩ := HK.out
        by_cases hlt : i < 8
        · obtain ⟨ad, rfl, hcs⟩ := sp_ad HC.out (by omega)
          have hcell := sp_cell HC.out i hlt
          obtain ⟨x, hx⟩ : ∃ x, l0.getD i 0 = x := ⟨_, rfl⟩
          rw [hx] at hcell
          obtain ⟨s, hs⟩ : ∃ s, sp_sum l0 sinT (32 / 8) i = s := ⟨_, rfl⟩
          have HN : Aside0 (sp_sum l0 sinT (32 / 8) (i + 1) = wrap64 (s + wrap64 (x * sinT ((i : Int) * 4)))) := ⟨by rw [sp_sum, hs, hx]; rfl⟩
          have HF : Aside0 (circle_Sin.f ((i : Int) * 4) = some (sinT ((i : Int) * 4))) := ⟨sp_sin (by omega) (by omega)⟩
          clear hcs hx
          rw [hs]
          clear hs
          go_wp2_with (go_at_call 36; (with_reducible refine (circle_Sin.calls _ _ _ (HG.out.drewN _) HF.out).mono ?_); rintro e w' ⟨rfl, ⟨nd, rfl⟩⟩)
          go_roundw
          case rel => exact ⟨i + 1, by omega, by go_num, by rw [HN.out], ⟨⟨_, rfl⟩⟩⟩
          case measure => simp [intOf]; omega
        · obtain rfl : i = 8 := by omega
          go_wp2
          go_ret
          exact ⟨by rw [HV.out]; rfl, ⟨⟨_, rfl⟩⟩⟩
    · clear hm hh
      go_enter Tryd.func34, Tryd.ntmps34
      go_wp2
      go_loopw [6, 26] (fun v6 v wr => ∃ (i : Nat), i ≤ 16 ∧ v = .int .i64 (i : Int) ∧ v6 = .int .i64 (sp_sum l0 sinT (32 / 16) i) ∧ Aside0 (∃ k, wr = w.drewN k)) (fun _ v _ => 16 - (intOf v).toNat)
      case atStart => exact ⟨0, by omega, rfl, rfl, ⟨⟨0, rfl⟩⟩⟩
      case round =>
        obtain ⟨i, hi, rfl, rfl, HK⟩ := hrel
        obtain ⟨k, rfl⟩ := HK.out
        by_cases hlt : i < 16
        · obtain ⟨ad, rfl, hcs⟩ := sp_ad HC.out (by omega)
          have hcell := sp_cell HC.out i hlt
          obtain ⟨x, hx⟩ : ∃ x, l0.getD i 0 = x := ⟨_, rfl⟩
          rw [hx] at hcell
          obtain ⟨s, hs⟩ : ∃ s, sp_sum l0 sinT (32 / 16) i = s := ⟨_, rfl⟩
          have HN : Aside0 (sp_sum l0 sinT (32 / 16) (i + 1) = wrap64 (s + wrap64 (x * sinT ((i : Int) * 2)))) := ⟨by rw [sp_sum, hs, hx]; rfl⟩
          have HF : Aside0 (circle_Sin.f ((i : Int) * 2) = some (sinT ((i : Int) * 2))) := ⟨sp_sin (by omega) (by omega)⟩
          clear hcs hx
          rw [hs]
          clear hs
          go_wp2_with (go_at_call 36; (with_reducible refine (circle_Sin.calls _ _ _ (HG.out.drewN _) HF.out).mono ?_); rintro e w' ⟨rfl, ⟨nd, rfl⟩⟩)
          go_roundw
          case rel => exact ⟨i + 1, by omega, by go_num, by rw [HN.out], ⟨⟨_, rfl⟩⟩⟩
          case measure => simp [intOf]; omega
        · obtain rfl : i = 16 := by omega
          go_wp2
          go_ret
          exact ⟨by rw [HV.out]; rfl, ⟨⟨_, rfl⟩⟩⟩
    · clear hm hh
      go_enter Tryd.func34, Tryd.ntmps34
      go_wp2
      go_loopw [6, 26] (fun v6 v wr => ∃ (i : Nat), i ≤ 32 ∧ v = .int .i64 (i : Int) ∧ v6 = .int .i64 (sp_sum l0 sinT (32 / 32) i) ∧ Aside0 (∃ k, wr = w.drewN k)) (fun _ v _ => 32 - (intOf v).toNat)
      case atStart => exact ⟨0, by omega, rfl, rfl, ⟨⟨0, rfl⟩⟩⟩
      case round =>
        obtain ⟨i, hi, rfl, rfl, HK⟩ := hrel
        obtain ⟨k, rfl⟩ := HK.out
        by_cases hlt : i < 32
        · obtain ⟨ad, rfl, hcs⟩ := sp_ad HC.out (by omega)
          have hcell := sp_cell HC.out i hlt
          obtain ⟨x, hx⟩ : ∃ x, l0.getD i 0 = x := ⟨_, rfl⟩
          rw [hx] at hcell
          obtain ⟨s, hs⟩ : ∃ s, sp_sum l0 sinT (32 / 32) i = s := ⟨_, rfl⟩
          have HN : Aside0 (sp_sum l0 sinT (32 / 32) (i + 1) = wrap64 (s + wrap64 (x * sinT (i : Int)))) := ⟨by rw [sp_sum, hs, hx, show ((32 / 32 : Nat) : Int) = 1 from rfl, Int.mul_one]⟩
          have HF : Aside0 (circle_Sin.f (i : Int) = some (sinT (i : Int))) := ⟨sp_sin (by omega) (by omega)⟩
          clear hcs hx
          rw [hs]
          clear hs
          go_wp2_with (go_at_call 36; (with_reducible refine (circle_Sin.calls _ _ _ (HG.out.drewN _) HF.out).mono ?_); rintro e w' ⟨rfl, ⟨nd, rfl⟩⟩)
          go_roundw
          case rel => exact ⟨i + 1, by omega, by go_num, by rw [HN.out], ⟨⟨_, rfl⟩⟩⟩
          case measure => simp [intOf]; omega
        · obtain rfl : i = 32 := by omega
          go_wp2
          go_ret
          exact ⟨by rw [HV.out]; rfl, ⟨⟨_, rfl⟩⟩⟩
  · have HV : Aside0 (sp_part l0 sinT = 0) := ⟨by unfold sp_part; rw [hl, if_neg (by rw [hm]; decide)]⟩
    have hcase : h = 0 ∨ 0 < h ∧ h ≤ 32 ∧ (Go.bits .and .i64 (h : Int) ((h : Int) - 1) != 0) = true ∨ 32 < h := by
      by_cases h1 : h ≤ 32
      · rcases sp_mask ⟨h, by omega⟩ with h2 | h2 | h2
        · exact .inl h2
        · rw [hm] at h2; cases h2
        · by_cases h3 : h = 0
          · exact .inl h3
          · exact .inr (.inl ⟨by omega, h1, h2⟩)
      · exact .inr (.inr (by omega))
    clear hl hm
    rcases hcase with rfl | ⟨h0, h1, h2⟩ | h1
    · go_enter Tryd.func34, Tryd.ntmps34
      go_wp2
      go_ret
      exact ⟨by rw [HV.out]; rfl, ⟨⟨0, rfl⟩⟩⟩
    · have hd : ((h : Int) == 0) = false := by simp; omega
      go_enter Tryd.func34, Tryd.ntmps34
      go_wp2
      go_ret
      exact ⟨by rw [HV.out]; rfl, ⟨⟨0, rfl⟩⟩⟩
    · have hd : ((h : Int) == 0) = false := by simp; omega
      go_enter Tryd.func34, Tryd.ntmps34
      go_wp2
      all_goals
        go_ret
        exact ⟨by rw [HV.out]; rfl, ⟨⟨0, rfl⟩⟩⟩
def spin_Imag.f (l0 : List Int) : Option Int := if decide (l0.length ≤ 1000000) then some (wrap64 (-(sp_part l0 sinT))) else none
theorem imag_go (A0 : Option Addr) (h c0 : Nat) (l0 : List Int) (w : World) (hG : GlobA w) (hl : l0.length = h) (hr0 : Kd.C (Kd.int .i64) w A0 h l0) (hh : h ≤ 1000000) :
    Calls Tryd.prog 17 #[.slice A0 h c0] w fun e w' => e = .returned (.int .i64 (wrap64 (-(sp_part l0 sinT)))) ∧ Drawn0 w w' := by
  have HG := Aside0.mk hG
  have HC := Aside0.mk hr0
  have HL := Aside0.mk hl
  clear hG hr0 hl
  go_enter Tryd.func17, Tryd.ntmps17
  go_wp2_with (go_at_call 34; (with_reducible refine (sum_sin A0 h c0 l0 _ HG.out HL.out HC.out hh).mono ?_); rintro e w' ⟨rfl, ⟨nd, rfl⟩⟩)
  go_ret
  exact ⟨rfl, ⟨⟨_, rfl⟩⟩⟩
theorem spin_Imag.calls (A0 : Option Addr) (c0 : Nat) (l0 : List Int) (r : Int) (w : World) (hG : GlobA w) (hr0 : Kd.C (Kd.int .i64) w A0 l0.length l0) (hc0 : l0.length ≤ c0) (h : spin_Imag.f l0 = some r) :
    Calls Tryd.prog 17 #[.slice A0 l0.length c0] w fun e w' => e = .returned (.int .i64 r) ∧ Drawn0 w w' := by
  unfold spin_Imag.f at h
  split at h
  case isFalse => cases h
  rename_i hz
  obtain rfl := Option.some.inj h
  exact imag_go A0 _ c0 l0 w hG rfl hr0 (of_decide_eq_true hz)

/-! ### earshotref04_Same: function 19 -/
def earshotref04_Same.l0 : Nat → List Int → List Int → Int → Option (Bool)
  | 0, _, _, _ => none
  | k + 1, x0, x1, x5 => if x5 < (x0.length : Int) then (if 0 ≤ x5 then (if x5 < (x1.length : Int) then (if (rd x0 x5) = (rd x1 x5) then (earshotref04_Same.l0 k x0 x1 (wrap64 (x5 + 1))) else (some false)) else (none)) else (none)) else (some true)
def earshotref04_Same.f (k : Nat) (l0 : List Int) (l1 : List Int) : Option (Bool) := if (l0.length : Int) = (l1.length : Int) then (earshotref04_Same.l0 k l0 l1 0) else (some false)
theorem earshotref04_Same.mono_l : ∀ k, (∀ y0 y1 y2, LeO (earshotref04_Same.l0 k y0 y1 y2) (earshotref04_Same.l0 (k + 1) y0 y1 y2))
  | 0 => fun _ _ _ r h => by simp [earshotref04_Same.l0] at h
  | k + 1 => by
    have ih0 := earshotref04_Same.mono_l k
    · intro y0 y1 y2
      unfold earshotref04_Same.l0
      repeat' first
      | (with_reducible exact ih0 _ _ _)
      | (with_reducible exact LeO.refl _)
      | (with_reducible exact LeO.none _)
      | (with_reducible refine LeO.ite ?_ ?_)
      | (with_reducible refine LeO.bind ?_ (fun _ => ?_))
      | exact ih0 _ _ _
      | exact LeO.none _
      | refine LeO.ite ?_ ?_
      | refine LeO.bind ?_ (fun _ => ?_)
theorem earshotref04_Same.mono : ∀ a0 a1 k, LeO (earshotref04_Same.f k a0 a1) (earshotref04_Same.f (k + 1) a0 a1) := by
  intro a0 a1 k
  have ih0 := earshotref04_Same.mono_l k
  unfold earshotref04_Same.f
  repeat' first
      | (with_reducible exact ih0 _ _ _)
      | (with_reducible exact LeO.refl _)
      | (with_reducible exact LeO.none _)
      | (with_reducible refine LeO.ite ?_ ?_)
      | (with_reducible refine LeO.bind ?_ (fun _ => ?_))
      | exact ih0 _ _ _
      | exact LeO.none _
      | refine LeO.ite ?_ ?_
      | refine LeO.bind ?_ (fun _ => ?_)
set_option maxHeartbeats 8000000 in
set_option maxRecDepth 100000 in
theorem earshotref04_Same.calls (k : Nat) (A0 : Option Addr) (c0 : Nat) (l0 : List Int) (A1 : Option Addr) (c1 : Nat) (l1 : List Int) (r : Bool) (w : World) (hr0 : Kd.C (Kd.int .i64) w A0 l0.length l0) (hc0 : l0.length ≤ c0) (hr1 : Kd.C (Kd.int .i64) w A1 l1.length l1) (hc1 : l1.length ≤ c1) (h : earshotref04_Same.f k l0 l1 = some r) :
    Calls Tryd.prog 19 #[.slice A0 l0.length c0, .slice A1 l1.length c1] w fun e w' => e = .returned (.bool r) ∧ Drawn0 w w' := by
  have HR0 := Aside0.mk hr0
  have HC0 := Aside0.mk hc0
  clear hr0 hc0
  have HR1 := Aside0.mk hr1
  have HC1 := Aside0.mk hc1
  clear hr1 hc1
  have H : (if (l0.length : Int) = (l1.length : Int) then (earshotref04_Same.l0 k l0 l1 0) else (some false)) = some r := h
  clear h
  by_cases c3 : (l0.length : Int) = (l1.length : Int)
  · rw [if_pos c3] at H
    have c3b0 : ((l0.length : Int) == (l1.length : Int)) = true := beq_iff_eq.mpr c3
    have c3b1 : ((l0.length : Int) != (l1.length : Int)) = false := bne_eq_false_iff_eq.mpr c3
    have c3b2 : (l0.length == l1.length) = true := by first | simpa using c3 | (simp at c3 ⊢; omega)
    clear c3
    have H' := Aside0.mk H
    clear H
    go_enter Tryd.func19, Tryd.ntmps19
    go_wp2
    repeat (go_quiet (fail); try go_wp2)
    go_loopg [5] k (fun kq v5 w' => ∃ (x5_1 : Int), v5 = .int .i64 x5_1 ∧ Aside0 (earshotref04_Same.l0 kq l0 l1 x5_1 = some r) ∧ Aside0 (kq ≤ k) ∧ Drawn0 w w')
    case atStart => exact ⟨(0), (by first | rfl | (simp; done) | (simp [*]; done)), H', ⟨Nat.le_refl _⟩, by repeat (first | exact Drawn0.refl _ | apply Drawn0.step)⟩
    case round =>
      clear H'
      try clear c1
      try clear p2
      try clear c3
      try clear c3b0
      try clear c3b1
      try clear c3b2
      obtain ⟨x5_1, rfl, HA, HK1, ⟨m1, rfl⟩⟩ := hrel
      cases gk with
      | zero => exact absurd HA.out (by simp [earshotref04_Same.l0])
      | succ k1 =>
        have H := HA.out
        clear HA
        simp only [earshotref04_Same.l0] at H
        by_cases c4 : x5_1 < (l0.length : Int)
        · rw [if_pos c4] at H
          have c4b0 : decide (x5_1 < (l0.length : Int)) = true := decide_eq_true c4
          clear c4
          by_cases c5 : 0 ≤ x5_1
          · rw [if_pos c5] at H
            have c5b0 : decide (0 ≤ x5_1) = true := decide_eq_true c5
            clear c5
            by_cases c6 : x5_1 < (l1.length : Int)
            · rw [if_pos c6] at H
              have c6b0 : decide (x5_1 < (l1.length : Int)) = true := decide_eq_true c6
              clear c6
              by_cases c7 : (rd l0 x5_1) = (rd l1 x5_1)
              · rw [if_pos c7] at H
                have c7b0 : ((rd l0 x5_1) == (rd l1 x5_1)) = true := beq_iff_eq.mpr c7
                have c7b1 : ((rd l0 x5_1) != (rd l1 x5_1)) = false := bne_eq_false_iff_eq.mpr c7
                clear c7
                have H' := Aside0.mk H
                clear H
                have p105 : 0 ≤ (x5_1 : Int) := of_decide_eq_true (by first | (with_reducible assumption) | assumption)
                have q105 : x5_1 < (l0.length : Int) := of_decide_eq_true (by first | (with_reducible assumption) | assumption)
                obtain ⟨ad105, e105, hx105_0⟩ := Kd.at_int HR0.out x5_1 p105 q105
                cases e105
                replace p105 := eq_true p105
                replace q105 := eq_true q105
                have p106 : 0 ≤ (x5_1 : Int) := of_decide_eq_true (by first | (with_reducible assumption) | assumption)
                have q106 : x5_1 < (l1.length : Int) := of_decide_eq_true (by first | (with_reducible assumption) | assumption)
                obtain ⟨ad106, e106, hx106_0⟩ := Kd.at_int HR1.out x5_1 p106 q106
                cases e106
                replace p106 := eq_true p106
                replace q106 := eq_true q106
                go_wp2
                repeat (go_quiet (fail); try go_wp2)
                go_roundg k1
                case measure => have := HK1.out; omega
                case rel => exact ⟨(wrap64 (x5_1 + 1)), (by first | rfl | (simp; done) | (simp [*]; done)), H', ⟨by have := HK1.out; omega⟩, by repeat (first | exact Drawn0.refl _ | apply Drawn0.step)⟩
              · rw [if_neg c7] at H
                have c7b0 : ((rd l0 x5_1) == (rd l1 x5_1)) = false := beq_eq_false_iff_ne.mpr c7
                have c7b1 : ((rd l0 x5_1) != (rd l1 x5_1)) = true := bne_iff_ne.mpr c7
                obtain rfl := Option.some.inj H
                have p105 : 0 ≤ (x5_1 : Int) := of_decide_eq_true (by first | (with_reducible assumption) | assumption)
                have q105 : x5_1 < (l0.length : Int) := of_decide_eq_true (by first | (with_reducible assumption) | assumption)
                obtain ⟨ad105, e105, hx105_0⟩ := Kd.at_int HR0.out x5_1 p105 q105
                cases e105
                replace p105 := eq_true p105
                replace q105 := eq_true q105
                have p106 : 0 ≤ (x5_1 : Int) := of_decide_eq_true (by first | (with_reducible assumption) | assumption)
                have q106 : x5_1 < (l1.length : Int) := of_decide_eq_true (by first | (with_reducible assumption) | assumption)
                obtain ⟨ad106, e106, hx106_0⟩ := Kd.at_int HR1.out x5_1 p106 q106
                cases e106
                replace p106 := eq_true p106
                replace q106 := eq_true q106
                go_wp2
                repeat (go_quiet (fail); try go_wp2)
                go_ret
                exact ⟨by first | rfl | (simp; done) | (simp [*]; done), by repeat (first | exact Drawn0.refl _ | apply Drawn0.step)⟩
            · rw [if_neg c6] at H
              exact absurd H (by simp)
          · rw [if_neg c5] at H
            exact absurd H (by simp)
        · rw [if_neg c4] at H
          have c4b0 : decide (x5_1 < (l0.length : Int)) = false := decide_eq_false c4
          clear c4
          obtain rfl := Option.some.inj H
          go_wp2
          repeat (go_quiet (fail); try go_wp2)
          go_ret
          exact ⟨by first | rfl | (simp; done) | (simp [*]; done), by repeat (first | exact Drawn0.refl _ | apply Drawn0.step)⟩
  · rw [if_neg c3] at H
    have c3b0 : ((l0.length : Int) == (l1.length : Int)) = false := beq_eq_false_iff_ne.mpr c3
    have c3b1 : ((l0.length : Int) != (l1.length : Int)) = true := bne_iff_ne.mpr c3
    have c3b2 : (l0.length == l1.length) = false := by first | simpa using c3 | (simp at c3 ⊢; omega)
    obtain rfl := Option.some.inj H
    go_enter Tryd.func19, Tryd.ntmps19
    go_wp2
    repeat (go_quiet (fail); try go_wp2)
    go_ret
    exact ⟨by first | rfl | (simp; done) | (simp [*]; done), by repeat (first | exact Drawn0.refl _ | apply Drawn0.step)⟩

/-! ### fft_may: function 45 -/
def fft_may.f (a0 : Int) : Option (Bool) := if a0 ≥ 2 then (if a0 ≤ 64 then (some ((Go.bits .and .i64 a0 (wrap64 (a0 - 1))) == 0)) else (some false)) else (some false)
set_option maxHeartbeats 8000000 in
set_option maxRecDepth 100000 in
theorem fft_may.calls (a0 : Int) (r : Bool) (w : World) (h : fft_may.f a0 = some r) :
    Calls Tryd.prog 45 #[.int .i64 a0] w fun e w' => e = .returned (.bool r) ∧ Drawn0 w w' := by
  have H : (if a0 ≥ 2 then (if a0 ≤ 64 then (some ((Go.bits .and .i64 a0 (wrap64 (a0 - 1))) == 0)) else (some false)) else (some false)) = some r := h
  clear h
  by_cases c2 : a0 ≥ 2
  · rw [if_pos c2] at H
    have c2b0 : decide (2 ≤ a0) = true := decide_eq_true c2
    clear c2
    by_cases c3 : a0 ≤ 64
    · rw [if_pos c3] at H
      have c3b0 : decide (a0 ≤ 64) = true := decide_eq_true c3
      clear c3
      obtain rfl := Option.some.inj H
      go_enter Tryd.func45, Tryd.ntmps45
      go_wp2
      go_ret
      exact ⟨by first | rfl | (simp; done) | (simp [*]; done), by repeat (first | exact Drawn0.refl _ | apply Drawn0.step)⟩
    · rw [if_neg c3] at H
      have c3b0 : decide (a0 ≤ 64) = false := decide_eq_false c3
      clear c3
      obtain rfl := Option.some.inj H
      go_enter Tryd.func45, Tryd.ntmps45
      go_wp2
      go_ret
      exact ⟨by first | rfl | (simp; done) | (simp [*]; done), by repeat (first | exact Drawn0.refl _ | apply Drawn0.step)⟩
  · rw [if_neg c2] at H
    have c2b0 : decide (2 ≤ a0) = false := decide_eq_false c2
    clear c2
    obtain rfl := Option.some.inj H
    go_enter Tryd.func45, Tryd.ntmps45
    go_wp2
    go_ret
    exact ⟨by first | rfl | (simp; done) | (simp [*]; done), by repeat (first | exact Drawn0.refl _ | apply Drawn0.step)⟩

-- NOT PRINTED: function 33 (spin_Turn_1)

end Go.Proofs.YtphmfecabbellaaDoor.PFftBlock
