-- Written by a program of this work (wip/tools) for this claim; Lean checks it.
import Derived.Test.YtohmecfjpmapnaaDoorPCircleWindowx0
namespace Go.Proofs.YtohmecfjpmapnaaDoor.PCircleWindow
open Go.RowKit Go.Proofs.YtohmecfjpmapnaaDoorW.PrintWords Go.Proofs.YtohmecfjpmapnaaDoorW.PrintLast Go.Proofs.YtohmecfjpmapnaaDoorW.PrintMore
attribute [local go_sem] max2_int min2_int max_two min_two max_three min_three max_four min_four   -- for this text's walks alone
set_option linter.unusedVariables false
set_option linter.unusedSimpArgs false

/-! ### round_Parts: function 21 -/
def round_Parts.f (a0 : Int) (a1 : Int) : Option (Int × Int) := if a1 < 1 then (some (0, 0)) else (if a1 = 0 then (none) else (if (Int.tmod a0 a1) < 0 then (some (wrap64 ((wrap64 (Int.tdiv a0 a1)) - 1), wrap64 ((Int.tmod a0 a1) + a1))) else (some (wrap64 (Int.tdiv a0 a1), Int.tmod a0 a1))))
set_option maxHeartbeats 8000000 in
set_option maxRecDepth 100000 in
theorem round_Parts.calls (a0 : Int) (a1 : Int) (r1 : Int) (r2 : Int) (w : World) (h : round_Parts.f a0 a1 = some (r1, r2)) :
    Calls Tryd.prog 21 #[.int .i64 a0, .int .i64 a1] w fun e w' => e = .returned (.tuple #[.int .i64 r1, .int .i64 r2]) ∧ Drawn0 w w' := by
  have H : (if a1 < 1 then (some (0, 0)) else (if a1 = 0 then (none) else (if (Int.tmod a0 a1) < 0 then (some (wrap64 ((wrap64 (Int.tdiv a0 a1)) - 1), wrap64 ((Int.tmod a0 a1) + a1))) else (some (wrap64 (Int.tdiv a0 a1), Int.tmod a0 a1))))) = some (r1, r2) := h
  clear h
  by_cases c3 : a1 < 1
  · rw [if_pos c3] at H
    have c3b0 : decide (a1 < 1) = true := decide_eq_true c3
    clear c3
    simp only [Option.some.injEq, Prod.mk.injEq] at H
    obtain ⟨rfl, rfl⟩ := H
    go_enter Tryd.func21, Tryd.ntmps21
    go_wp2
    repeat (go_quiet (fail); try go_wp2)
    go_ret2
    exact ⟨by first | rfl | (simp; done) | (simp [*]; done), by repeat (first | exact Drawn0.refl _ | apply Drawn0.step)⟩
  · rw [if_neg c3] at H
    have c3b0 : decide (a1 < 1) = false := decide_eq_false c3
    clear c3
    by_cases c4 : a1 = 0
    · rw [if_pos c4] at H
      exact absurd H (by simp)
    · rw [if_neg c4] at H
      have c4b0 : (a1 == 0) = false := beq_eq_false_iff_ne.mpr c4
      have c4b1 : (a1 != 0) = true := bne_iff_ne.mpr c4
      by_cases c5 : (Int.tmod a0 a1) < 0
      · rw [if_pos c5] at H
        have c5b0 : decide ((Int.tmod a0 a1) < 0) = true := decide_eq_true c5
        clear c5
        simp only [Option.some.injEq, Prod.mk.injEq] at H
        obtain ⟨rfl, rfl⟩ := H
        go_enter Tryd.func21, Tryd.ntmps21
        go_wp2
        repeat (go_quiet (fail); try go_wp2)
        go_ret2
        exact ⟨by first | rfl | (simp; done) | (simp [*]; done), by repeat (first | exact Drawn0.refl _ | apply Drawn0.step)⟩
      · rw [if_neg c5] at H
        have c5b0 : decide ((Int.tmod a0 a1) < 0) = false := decide_eq_false c5
        clear c5
        simp only [Option.some.injEq, Prod.mk.injEq] at H
        obtain ⟨rfl, rfl⟩ := H
        go_enter Tryd.func21, Tryd.ntmps21
        go_wp2
        repeat (go_quiet (fail); try go_wp2)
        go_ret2
        exact ⟨by first | rfl | (simp; done) | (simp [*]; done), by repeat (first | exact Drawn0.refl _ | apply Drawn0.step)⟩

/-! ### circle_Rest: function 12 -/
def circle_Rest.f (a0 : Int) : Option (Int) := (round_Parts.f a0 64).bind fun bt101 => (some bt101.2)
set_option maxHeartbeats 8000000 in
set_option maxRecDepth 100000 in
theorem circle_Rest.calls (a0 : Int) (r : Int) (w : World) (h : circle_Rest.f a0 = some r) :
    Calls Tryd.prog 12 #[.int .i64 a0] w fun e w' => e = .returned (.int .i64 r) ∧ Drawn0 w w' := by
  have H : ((round_Parts.f a0 64).bind fun bt101 => (some bt101.2)) = some r := h
  clear h
  replace H := Option.bind_eq_some_iff.mp H
  obtain ⟨⟨t101, t102⟩, A20, H⟩ := H
  replace H : (some t102) = some r := H
  have A2 := Aside0.mk A20
  clear A20
  obtain rfl := Option.some.inj H
  go_enter Tryd.func12, Tryd.ntmps12
  go_wp2_with (first | ((with_reducible refine gate_callee (f := 21) rfl ?_); refine goesL_ (some 7) rfl rfl Tryd.func21 (by kernel_rfl) rfl #[.int .i64 a0, .int .i64 64] rfl (by (try simp only [List.map_toArray, List.map_cons, List.map_nil]); first | done | rfl | (simp only [List.length_drop, List.length_take]; rfl)) ?_; (with_reducible refine (round_Parts.calls a0 64 t101 t102 _ A2.out).mono ?_); rintro e w' ⟨rfl, ⟨nd, rfl⟩⟩; refine ⟨_, rfl, ?_⟩))
  go_ret
  exact ⟨by first | rfl | (simp; done) | (simp [*]; done), by repeat (first | exact Drawn0.refl _ | apply Drawn0.step)⟩

/-! ### circle_Cos: function 14 -/
def cosTab : List Int := [16384, 16305, 16069, 15679, 15137, 14449, 13623, 12665, 11585, 10394, 9102, 7723, 6270, 4756, 3196, 1606, 0]
/-- The package variable reads as the text lays it. -/
def GlobA (w : World) : Prop := 0 < w.heap.size ∧ ∀ j : Nat, j < 17 → w.cell? ⟨0, j, none⟩ = some (.int .i64 (cosTab.getD j 0))
theorem GlobA.below {w w' : World} (h : GlobA w) (hb : Below w.heap.size w w') : GlobA w' :=
  ⟨Nat.lt_of_lt_of_le h.1 hb.size, fun j hj => by rw [hb.cell (p := ⟨0, j, none⟩) h.1]; exact h.2 j hj⟩
theorem GlobA.drewN {w : World} (h : GlobA w) (n : Nat) : GlobA (w.drewN n) := h
def ci64b (x : Int) : Bool := decide (-9223372036854775808 ≤ x) && decide (x ≤ 9223372036854775807)
/-- The cosine of a place from 0 to 63. -/
def cosAt (r : Int) : Int := if r > 32 then (if 64 - r > 16 then -(cosTab.getD (32 - (64 - r)).toNat 0) else cosTab.getD (64 - r).toNat 0) else (if r > 16 then -(cosTab.getD (32 - r).toNat 0) else cosTab.getD r.toNat 0)
def circle_Cos.f (a0 : Int) : Option (Int) := if ci64b a0 = true then (some (cosAt (a0 % 64))) else (none)
theorem rest_some {x : Int} (hx : ci64b x = true) : circle_Rest.f x = some (x % 64) := by
  have hx' : -9223372036854775808 ≤ x ∧ x ≤ 9223372036854775807 := by simpa [ci64b] using hx
  have e1 := Int.tmod_eq_emod (a := x) (b := 64)
  have m0 := Int.emod_nonneg x (show (64 : Int) ≠ 0 by decide)
  have m1 := Int.emod_lt_of_pos x (show (0 : Int) < 64 by decide)
  unfold circle_Rest.f round_Parts.f
  rw [if_neg (by decide), if_neg (by decide)]
  by_cases h : 0 ≤ x ∨ (64 : Int) ∣ x
  · rw [if_pos h] at e1
    rw [if_neg (by omega), Option.bind_some, e1]
    simp
  · rw [if_neg h] at e1
    have e2 : ((Int.natAbs 64 : Nat) : Int) = 64 := rfl
    rw [e2] at e1
    rw [if_pos (by omega), Option.bind_some, e1, show wrap64 (x % 64 - 64 + 64) = x % 64 by unfold wrap64; omega]
theorem cosTab_le (j : Nat) : 0 ≤ cosTab.getD j 0 ∧ cosTab.getD j 0 ≤ 16384 := by
  by_cases h : j < 17
  · exact (by decide : ∀ i : Fin 17, 0 ≤ cosTab.getD i.1 0 ∧ cosTab.getD i.1 0 ≤ 16384) ⟨j, h⟩
  · rw [List.getD_eq_getElem?_getD, List.getElem?_eq_none (by simp [cosTab]; omega)]
    decide
set_option maxHeartbeats 8000000 in
theorem circle_Cos.calls (a0 : Int) (r : Int) (w : World) (hG : GlobA w) (h : circle_Cos.f a0 = some r) :
    Calls Tryd.prog 14 #[.int .i64 a0] w fun e w' => e = .returned (.int .i64 r) ∧ Drawn0 w w' := by
  have hx : ci64b a0 = true := by
    unfold circle_Cos.f at h
    split at h
    · assumption
    · cases h
  have HR : Aside0 (cosAt (a0 % 64) = r) := by
    unfold circle_Cos.f at h
    rw [if_pos hx] at h
    exact ⟨Option.some.inj h⟩
  have HP := Aside0.mk (rest_some hx)
  have m0 := Int.emod_nonneg a0 (show (64 : Int) ≠ 0 by decide)
  have m1 := Int.emod_lt_of_pos a0 (show (0 : Int) < 64 by decide)
  clear h hx
  obtain ⟨q, hq⟩ : ∃ q, a0 % 64 = q := ⟨_, rfl⟩
  rw [hq] at HR HP m0 m1
  clear hq
  have HG := Aside0.mk hG
  clear hG
  have cell : ∀ i : Int, 0 ≤ i → i < 17 → Aside0 (w.cell? ⟨0, i.toNat, none⟩ = some (.int .i64 (cosTab.getD i.toNat 0))) := fun i h0 h1 => ⟨HG.out.2 i.toNat (by omega)⟩
  have rng := cosTab_le
  by_cases c1 : q > 32
  · have d1 : decide (32 < q) = true := decide_eq_true c1
    by_cases c2 : 64 - q > 16
    · have d2 : decide (16 < 64 - q) = true := decide_eq_true c2
      have HR2 : Aside0 (r = -(cosTab.getD (32 - (64 - q)).toNat 0)) := ⟨by rw [← HR.out, cosAt, if_pos c1, if_pos c2]⟩
      have hc := (cell (32 - (64 - q)) (by omega) (by omega)).out
      have hb := rng (32 - (64 - q)).toNat
      obtain ⟨v, hv⟩ : ∃ v, cosTab.getD (32 - (64 - q)).toNat 0 = v := ⟨_, rfl⟩
      rw [hv] at hc hb HR2
      clear hv HR cell rng
      have hb0 := hb.1
      have hb1 := hb.2
      clear hb
      go_enter Tryd.func14, Tryd.ntmps14
      go_wp2_with (first | (go_at_call 12; refine (circle_Rest.calls _ _ _ HP.out).mono ?_; rintro e w' ⟨rfl, ⟨nd, rfl⟩⟩) | go_in)
      all_goals
        go_ret
        exact ⟨by rw [HR2.out]; rfl, ⟨_, rfl⟩⟩
    · have d2 : decide (16 < 64 - q) = false := decide_eq_false c2
      have HR2 : Aside0 (r = cosTab.getD (64 - q).toNat 0) := ⟨by rw [← HR.out, cosAt, if_pos c1, if_neg c2]⟩
      have hc := (cell (64 - q) (by omega) (by omega)).out
      have hb := rng (64 - q).toNat
      obtain ⟨v, hv⟩ : ∃ v, cosTab.getD (64 - q).toNat 0 = v := ⟨_, rfl⟩
      rw [hv] at hc hb HR2
      clear hv HR cell rng
      have hb0 := hb.1
      have hb1 := hb.2
      clear hb
      go_enter Tryd.func14, Tryd.ntmps14
      go_wp2_with (first | (go_at_call 12; refine (circle_Rest.calls _ _ _ HP.out).mono ?_; rintro e w' ⟨rfl, ⟨nd, rfl⟩⟩) | go_in)
      all_goals
        go_ret
        exact ⟨by rw [HR2.out]; rfl, ⟨_, rfl⟩⟩
  · have d1 : decide (32 < q) = false := decide_eq_false c1
    by_cases c2 : q > 16
    · have d2 : decide (16 < q) = true := decide_eq_true c2
      have HR2 : Aside0 (r = -(cosTab.getD (32 - q).toNat 0)) := ⟨by rw [← HR.out, cosAt, if_neg c1, if_pos c2]⟩
      have hc := (cell (32 - q) (by omega) (by omega)).out
      have hb := rng (32 - q).toNat
      obtain ⟨v, hv⟩ : ∃ v, cosTab.getD (32 - q).toNat 0 = v := ⟨_, rfl⟩
      rw [hv] at hc hb HR2
      clear hv HR cell rng
      have hb0 := hb.1
      have hb1 := hb.2
      clear hb
      go_enter Tryd.func14, Tryd.ntmps14
      go_wp2_with (first | (go_at_call 12; refine (circle_Rest.calls _ _ _ HP.out).mono ?_; rintro e w' ⟨rfl, ⟨nd, rfl⟩⟩) | go_in)
      all_goals
        go_ret
        exact ⟨by rw [HR2.out]; rfl, ⟨_, rfl⟩⟩
    · have d2 : decide (16 < q) = false := decide_eq_false c2
      have HR2 : Aside0 (r = cosTab.getD (q).toNat 0) := ⟨by rw [← HR.out, cosAt, if_neg c1, if_neg c2]⟩
      have hc := (cell (q) (by omega) (by omega)).out
      have hb := rng (q).toNat
      obtain ⟨v, hv⟩ : ∃ v, cosTab.getD (q).toNat 0 = v := ⟨_, rfl⟩
      rw [hv] at hc hb HR2
      clear hv HR cell rng
      have hb0 := hb.1
      have hb1 := hb.2
      clear hb
      go_enter Tryd.func14, Tryd.ntmps14
      go_wp2_with (first | (go_at_call 12; refine (circle_Rest.calls _ _ _ HP.out).mono ?_; rintro e w' ⟨rfl, ⟨nd, rfl⟩⟩) | go_in)
      all_goals
        go_ret
        exact ⟨by rw [HR2.out]; rfl, ⟨_, rfl⟩⟩

-- NOT PRINTED: function 28 (round_Div_1)

/-! ### round_Div: function 24 -/
def i64b (x : Int) : Bool := decide (-9223372036854775808 ≤ x) && decide (x ≤ 9223372036854775807)
theorem i64b_of {x : Int} (h : i64b x = true) : -9223372036854775808 ≤ x ∧ x ≤ 9223372036854775807 := by simpa [i64b] using h
theorem i64b_mk {x : Int} (h0 : -9223372036854775808 ≤ x) (h1 : x ≤ 9223372036854775807) : i64b x = true := by simp [i64b, h0, h1]
theorem div_low {x n : Int} (hn : 1 ≤ n) (hx : -9223372036854775808 ≤ x) : -9223372036854775808 ≤ x / n := by
  refine (Int.le_ediv_iff_mul_le (by omega)).2 ?_
  omega
theorem div_high {x n : Int} (hn : 1 ≤ n) (hx : x ≤ 9223372036854775807) : x / n ≤ 9223372036854775807 := by
  refine Int.le_trans (Int.ediv_le_ediv (by omega) hx) ?_
  exact Int.ediv_le_self _ (by decide)
theorem parts_some {x n : Int} (hx : i64b x = true) (hn : i64b n = true) (h1 : 1 ≤ n) : round_Parts.f x n = some (x / n, x % n) := by
  have hx := i64b_of hx
  have hn := i64b_of hn
  have hl := div_low h1 hx.1
  have hh := div_high h1 hx.2
  have m0 := Int.emod_nonneg x (show n ≠ 0 by omega)
  have m1 := Int.emod_lt_of_pos x (show 0 < n by omega)
  have e1 := Int.tmod_eq_emod (a := x) (b := n)
  have e2 := Int.tdiv_eq_ediv (a := x) (b := n)
  have s1 : n.sign = 1 := Int.sign_eq_one_of_pos (by omega)
  have s2 : (n.natAbs : Int) = n := by omega
  rw [s1] at e2
  unfold round_Parts.f
  rw [if_neg (by omega), if_neg (by omega)]
  by_cases h : 0 ≤ x ∨ n ∣ x
  · rw [if_pos h] at e1 e2
    rw [if_neg (by omega), e1, e2, Int.natCast_zero]
    rw [show wrap64 (x / n + 0) = x / n by unfold wrap64; omega, Int.sub_zero]
  · rw [if_neg h] at e1 e2
    rw [s2] at e1
    have hx0 : x / n < 0 := by
      rcases Int.lt_or_le (x / n) 0 with h' | h'
      · exact h'
      · have := Int.mul_ediv_add_emod x n
        have := Int.mul_nonneg (show 0 ≤ n by omega) h'
        omega
    rw [if_pos (by omega), e1, e2]
    rw [show wrap64 (x / n + 1) = x / n + 1 by unfold wrap64; omega, show wrap64 (x / n + 1 - 1) = x / n by unfold wrap64; omega, show wrap64 (x % n - n + n) = x % n by unfold wrap64; omega]
theorem parts_none {x n : Int} (h1 : n < 1) : round_Parts.f x n = some (0, 0) := by
  unfold round_Parts.f
  rw [if_pos h1]
/-- Division that rounds. -/
def divR (x n : Int) : Int := if n < 1 then 0 else if x % n ≥ n - x % n then x / n + 1 else x / n
def round_Div.f (a0 : Int) (a1 : Int) : Option (Int) := if i64b a0 = true then (if i64b a1 = true then (some (divR a0 a1)) else (none)) else (none)
set_option maxHeartbeats 8000000 in
theorem round_Div.calls (a0 : Int) (a1 : Int) (r : Int) (w : World) (h : round_Div.f a0 a1 = some r) :
    Calls Tryd.prog 24 #[.int .i64 a0, .int .i64 a1] w fun e w' => e = .returned (.int .i64 r) ∧ Below w.heap.size w w' := by
  have hx : i64b a0 = true := by
    unfold round_Div.f at h
    split at h
    · assumption
    · cases h
  have hn : i64b a1 = true := by
    unfold round_Div.f at h
    rw [if_pos hx] at h
    split at h
    · assumption
    · cases h
  have HR : Aside0 (divR a0 a1 = r) := by
    unfold round_Div.f at h
    rw [if_pos hx, if_pos hn] at h
    exact ⟨Option.some.inj h⟩
  clear h
  have hmf : ∀ (fn : Fn) (first cap : Array Value) (w : World), (Instr.makeFunc fn first cap).run Tryd.prog w = .ok (.func fn first cap) w := fun _ _ _ _ => rfl
  by_cases h1 : a1 < 1
  · have HP := Aside0.mk (parts_none (x := a0) h1)
    have hdec : decide (0 < a1) = false := decide_eq_false (by omega)
    have HR2 : Aside0 (r = 0) := ⟨by rw [← HR.out, divR, if_pos h1]⟩
    clear hx hn
    go_enter Tryd.func24, Tryd.ntmps24
    go_wp2_with (first | (go_at_call 21; refine (round_Parts.calls _ _ _ _ _ HP.out).mono ?_; rintro e w' ⟨rfl, ⟨nd, rfl⟩⟩) | go_in)
    all_goals
      go_ret
      exact ⟨by rw [HR2.out]; rfl, by repeat (first | exact Below.refl _ _ | apply below_alloc | apply pw_below_drewN)⟩
  · have HP := Aside0.mk (parts_some hx hn (Int.not_lt.1 h1))
    have m0 := Int.emod_nonneg a0 (show a1 ≠ 0 by omega)
    have m1 := Int.emod_lt_of_pos a0 (show 0 < a1 by omega)
    have hx' := i64b_of hx
    have hn' := i64b_of hn
    have hl := div_low (Int.not_lt.1 h1) hx'.1
    have hh := div_high (Int.not_lt.1 h1) hx'.2
    have hq : 2 ≤ a1 → a0 / a1 ≤ 4611686018427387904 := by
      intro h2
      have e1 := Int.mul_ediv_add_emod a0 a1
      have e2 : 2 * (a0 / a1) ≤ a1 * (a0 / a1) ∨ a0 / a1 < 0 := by
        rcases Int.lt_or_le (a0 / a1) 0 with h' | h'
        · exact .inr h'
        · exact .inl (Int.mul_le_mul_of_nonneg_right h2 h')
      omega
    have HE : Aside0 (r = if a0 % a1 ≥ a1 - a0 % a1 then a0 / a1 + 1 else a0 / a1) := ⟨by rw [← HR.out, divR, if_neg h1]⟩
    clear hx hn HR
    obtain ⟨q, hqq⟩ : ∃ q, a0 / a1 = q := ⟨_, rfl⟩
    obtain ⟨m, hmm⟩ : ∃ m, a0 % a1 = m := ⟨_, rfl⟩
    rw [hqq, hmm] at HP HE
    rw [hqq] at hl hh hq
    rw [hmm] at m0 m1
    clear hqq hmm
    have hx1 := hx'.1
    have hx2 := hx'.2
    have hn2 := hn'.2
    clear hx' hn'
    have hdec : decide (0 < a1) = true := decide_eq_true (by omega)
    by_cases hc : m ≥ a1 - m
    · have hq2 := hq (by omega)
      have HE2 : Aside0 (r = q + 1) := ⟨by rw [HE.out, if_pos hc]⟩
      have hd2 : decide (a1 - m ≤ m) = true := decide_eq_true hc
      clear HE hq hc
      go_enter Tryd.func24, Tryd.ntmps24
      go_wp2_with (first | (go_at_call 21; refine (round_Parts.calls _ _ _ _ _ HP.out).mono ?_; rintro e w' ⟨rfl, ⟨nd, rfl⟩⟩) | go_in)
      all_goals
        go_ret
        exact ⟨by rw [HE2.out]; rfl, by repeat (first | exact Below.refl _ _ | apply below_alloc | apply pw_below_drewN)⟩
    · have HE2 : Aside0 (r = q) := ⟨by rw [HE.out, if_neg hc]⟩
      have hd2 : decide (a1 - m ≤ m) = false := decide_eq_false hc
      clear HE hq hc
      go_enter Tryd.func24, Tryd.ntmps24
      go_wp2_with (first | (go_at_call 21; refine (round_Parts.calls _ _ _ _ _ HP.out).mono ?_; rintro e w' ⟨rfl, ⟨nd, rfl⟩⟩) | go_in)
      all_goals
        go_ret
        exact ⟨by rw [HE2.out]; rfl, by repeat (first | exact Below.refl _ _ | apply below_alloc | apply pw_below_drewN)⟩

/-! ### round_Half: function 19 -/
def round_Half.f (a0 : Int) (a1 : Int) : Option (Int) := if a1 < 0 then (some 0) else (if a1 > 62 then (some 0) else (if 0 ≤ a1 then ((round_Div.f a0 (shl .i64 1 a1)).bind fun t103 => (some t103)) else (none)))
set_option maxHeartbeats 8000000 in
set_option maxRecDepth 100000 in
theorem round_Half.calls (a0 : Int) (a1 : Int) (r : Int) (w : World) (h : round_Half.f a0 a1 = some r) :
    Calls Tryd.prog 19 #[.int .i64 a0, .int .i64 a1] w fun e w' => e = .returned (.int .i64 r) ∧ Below w.heap.size w w' := by
  have HB := Aside0.mk (Below.refl w.heap.size w)
  have H : (if a1 < 0 then (some 0) else (if a1 > 62 then (some 0) else (if 0 ≤ a1 then ((round_Div.f a0 (shl .i64 1 a1)).bind fun t103 => (some t103)) else (none)))) = some r := h
  clear h
  by_cases c3 : a1 < 0
  · rw [if_pos c3] at H
    have c3b0 : decide (a1 < 0) = true := decide_eq_true c3
    clear c3
    obtain rfl := Option.some.inj H
    go_enter Tryd.func19, Tryd.ntmps19
    go_wp2
    go_ret
    exact ⟨by first | rfl | (simp [errW_none, errW_some] <;> rfl) | (simp [*, errW_none, errW_some] <;> rfl), by repeat (first | (with_reducible first | exact HB.out | apply below_alloc | apply pw_below_drewN | apply below_drew1) | exact HB.out)⟩
  · rw [if_neg c3] at H
    have c3b0 : decide (a1 < 0) = false := decide_eq_false c3
    clear c3
    by_cases c4 : a1 > 62
    · rw [if_pos c4] at H
      have c4b0 : decide (62 < a1) = true := decide_eq_true c4
      clear c4
      obtain rfl := Option.some.inj H
      go_enter Tryd.func19, Tryd.ntmps19
      go_wp2
      go_ret
      exact ⟨by first | rfl | (simp [errW_none, errW_some] <;> rfl) | (simp [*, errW_none, errW_some] <;> rfl), by repeat (first | (with_reducible first | exact HB.out | apply below_alloc | apply pw_below_drewN | apply below_drew1) | exact HB.out)⟩
    · rw [if_neg c4] at H
      have c4b0 : decide (62 < a1) = false := decide_eq_false c4
      clear c4
      by_cases c5 : 0 ≤ a1
      · rw [if_pos c5] at H
        have c5b0 := eq_true c5
        have c5b1 : decide (0 ≤ a1) = true := decide_eq_true c5
        clear c5
        obtain ⟨ji6, hji6⟩ : ∃ j_ : Int, (shl .i64 1 a1) = j_ := ⟨_, rfl⟩
        replace H : ((round_Div.f a0 (ji6)).bind fun t103 => (some t103)) = some r := by first | (rw [hji6] at H; exact H) | (simp only [hji6] at H ⊢; exact H)
        have hji6_ : (IntKind.i64.wrap (1 * 2 ^ min a1.toNat 64)) = ji6 := hji6
        have hji6z : a1 ≤ 64 → (IntKind.i64.wrap (1 * 2 ^ a1.toNat)) = ji6 := shl_small hji6
        have hji6u : (IntKind.i64.wrap (2 ^ min a1.toNat 64)) = ji6 := by have h_ := hji6_; rw [Int.one_mul] at h_; exact h_
        have hji6v : a1 ≤ 64 → (IntKind.i64.wrap (2 ^ a1.toNat)) = ji6 := fun hle_ => by have h_ := hji6z hle_; rw [Int.one_mul] at h_; exact h_
        have hji6y : (wrap64 (1 * 2 ^ min a1.toNat 64)) = ji6 := (i64_w _).symm.trans hji6_
        have hji6x : a1 ≤ 64 → (wrap64 (1 * 2 ^ a1.toNat)) = ji6 := fun h_ => (i64_w _).symm.trans (hji6z h_)
        replace H := Option.bind_eq_some_iff.mp H
        obtain ⟨t103, A70, H⟩ := H
        replace H : (some t103) = some r := H
        have A7 := Aside0.mk A70
        clear A70
        obtain rfl := Option.some.inj H
        go_enter Tryd.func19, Tryd.ntmps19
        go_wp2_with (first | ((with_reducible refine gate_callee (f := 24) rfl ?_); refine goesL_ (some 14) rfl rfl Tryd.func24 (by kernel_rfl) rfl #[.int .i64 a0, .int .i64 ji6] rfl (by (try simp only [List.map_toArray, List.map_cons, List.map_nil]); first | done | (simp only [hji6]; rfl) | rfl | (simp only [List.length_drop, List.length_take]; rfl)) ?_; (with_reducible refine (round_Div.calls a0 ji6 t103 _ A7.out).mono ?_); rintro e w8 ⟨rfl, hb⟩; refine ⟨_, rfl, ?_⟩; have n0_ := Aside0.mk (below_step (by repeat (first | (with_reducible first | exact HB.out | apply below_alloc | apply pw_below_drewN | apply below_drew1) | exact HB.out)) hb); clear HB; have HB := n0_; clear n0_; (try clear hb); (try clear hb2); (try clear hk); (try clear hi)))
        go_ret
        exact ⟨by first | rfl | (simp [errW_none, errW_some] <;> rfl) | (simp only [← hji6]; first | rfl | (simp [errW_none, errW_some] <;> rfl)) | (simp [*, errW_none, errW_some] <;> rfl), by repeat (first | (with_reducible first | exact HB.out | apply below_alloc | apply pw_below_drewN | apply below_drew1) | exact HB.out)⟩
      · rw [if_neg c5] at H
        exact absurd H (by simp)

-- NOT PRINTED: function 18 (circle_Window_1)

/-! ### circle_Window: function 10 -/
/-- A window's number at t, of one of n: s is 64 / n. -/
def winAt (s t : Int) : Int := 8847 - divR (7537 * cosAt (t * s % 64)) 16384
def winList (n : Int) : List Int := if n = 16 then (List.range 16).map (fun t : Nat => winAt 4 (t : Int)) else if n = 32 then (List.range 32).map (fun t : Nat => winAt 2 (t : Int)) else if n = 64 then (List.range 64).map (fun t : Nat => winAt 1 (t : Int)) else []
def circle_Window.f (a0 : Int) : Option (List Int) := some (winList a0)
theorem cosAt_le (q : Int) : -16384 ≤ cosAt q ∧ cosAt q ≤ 16384 := by
  have h := cosTab_le
  unfold cosAt
  split <;> split <;> (first | (have := h (32 - (64 - q)).toNat; omega) | (have := h (64 - q).toNat; omega) | (have := h (32 - q).toNat; omega) | (have := h q.toNat; omega))
theorem divR_14 (x : Int) : divR x 16384 = (x + 8192) / 16384 := by
  unfold divR
  rw [if_neg (by decide)]
  split <;> omega
theorem half_14 (x : Int) (h0 : -1000000000 ≤ x) (h1 : x ≤ 1000000000) : round_Half.f x 14 = some (divR x 16384) := by
  unfold round_Half.f round_Div.f
  have e : shl .i64 1 14 = 16384 := by decide
  rw [if_neg (by decide), if_neg (by decide), if_pos (by decide), e, if_pos (i64b_mk (by omega) (by omega)), if_pos (by decide)]
  rfl
set_option maxHeartbeats 8000000 in
theorem win_at (n s t : Int) (gn : Nat) (w : World) (hG : GlobA w) (hb : w.heap[gn]? = some (.cells #[.int .i64 n] 3 (0, 0))) (hn : n = 16 ∧ s = 4 ∨ n = 32 ∧ s = 2 ∨ n = 64 ∧ s = 1) (h0 : 0 ≤ t) (h1 : t < 64) :
    Calls Tryd.prog 18 #[.int .i64 t, .pointer (some ⟨gn, 0, none⟩)] w fun e w' => e = .returned (.int .i64 (winAt s t)) ∧ Below w.heap.size w w' := by
  have hc := cell_of_one hb
  have hlt := lt_of_block hb
  clear hb
  have hcos : circle_Cos.f (t * s) = some (cosAt (t * s % 64)) := by
    unfold circle_Cos.f
    rw [if_pos]
    rcases hn with ⟨_, rfl⟩ | ⟨_, rfl⟩ | ⟨_, rfl⟩ <;> simp [ci64b] <;> omega
  have hr := cosAt_le (t * s % 64)
  have HW : Aside0 (winAt s t = 8847 - divR (7537 * cosAt (t * s % 64)) 16384) := ⟨rfl⟩
  obtain ⟨c, hcc⟩ : ∃ c, cosAt (t * s % 64) = c := ⟨_, rfl⟩
  rw [hcc] at hcos hr HW
  clear hcc
  have HH := Aside0.mk (half_14 (7537 * c) (by omega) (by omega))
  have hd : -100000 ≤ divR (7537 * c) 16384 ∧ divR (7537 * c) 16384 ≤ 100000 := by rw [divR_14]; omega
  obtain ⟨z, hz⟩ : ∃ z, divR (7537 * c) 16384 = z := ⟨_, rfl⟩
  rw [hz] at HH hd HW
  clear hz
  have hr0 := hr.1
  have hr1 := hr.2
  have hd0 := hd.1
  have hd1 := hd.2
  have HG := Aside0.mk hG
  have HC := Aside0.mk hcos
  clear hr hd hG hcos
  rcases hn with ⟨rfl, rfl⟩ | ⟨rfl, rfl⟩ | ⟨rfl, rfl⟩
  all_goals
    (try rw [Int.mul_one] at HC)
    go_enter Tryd.func18, Tryd.ntmps18
    go_wp2_with (first
      | (go_at_call 14; refine (circle_Cos.calls _ _ _ HG.out HC.out).mono ?_; rintro e w' ⟨rfl, ⟨nd, rfl⟩⟩)
      | (go_at_call 19; refine (round_Half.calls _ _ _ _ HH.out).mono ?_; rintro e w' ⟨rfl, hb⟩; have HB := Aside0.mk hb; clear hb))
    go_ret
    exact ⟨by rw [HW.out]; rfl, below_then (pw_below_drewN (Below.refl _ _) _) (Nat.le_refl _) HB.out⟩
theorem win_info : (Tryd.prog.info? 3).map (fun i => (i.zero, i.size, i.bytes)) = some (some (.int .i64 0), 1, 8) := by kernel_rfl
theorem win_upto (s : Int) (N : Nat) (xs : List Int) (hl : xs.length = N) (h : ∀ j, j < N → xs.getD j 0 = winAt s (j : Int)) : xs = (List.range N).map (fun t : Nat => winAt s (t : Int)) := by
  apply List.ext_getElem
  · simp [hl]
  · intro i h1 h2
    have := h i (by omega)
    rw [List.getD_eq_getElem?_getD, List.getElem?_eq_getElem h1] at this
    simpa using this
set_option maxHeartbeats 16000000 in
theorem circle_Window.calls (a0 : Int) (r : List Int) (w : World) (hG : GlobA w) (h : circle_Window.f a0 = some r) :
    Calls Tryd.prog 10 #[.int .i64 a0] w fun e w' => ∃ v0_ : Value, e = .returned v0_ ∧ Kd.R (Kd.int .i64) 3 w' w.heap.size (fun _ => True) v0_ r ∧ Below w.heap.size w w' := by
  have HR : Aside0 (winList a0 = r) := ⟨Option.some.inj h⟩
  have HG := Aside0.mk hG
  clear h hG
  have hmf : ∀ (fn : Fn) (first cap : Array Value) (w : World), (Instr.makeFunc fn first cap).run Tryd.prog w = .ok (.func fn first cap) w := fun _ _ _ _ => rfl
  by_cases hn : a0 = 16 ∨ a0 = 32 ∨ a0 = 64
  · have hs : ∃ (s : Int) (N : Nat), a0 = (N : Int) ∧ (a0 = 16 ∧ s = 4 ∧ N = 16 ∨ a0 = 32 ∧ s = 2 ∧ N = 32 ∨ a0 = 64 ∧ s = 1 ∧ N = 64) ∧ winList a0 = (List.range N).map (fun t : Nat => winAt s (t : Int)) := by
      rcases hn with rfl | rfl | rfl
      · exact ⟨4, 16, rfl, .inl ⟨rfl, rfl, rfl⟩, rfl⟩
      · exact ⟨2, 32, rfl, .inr (.inl ⟨rfl, rfl, rfl⟩), rfl⟩
      · exact ⟨1, 64, rfl, .inr (.inr ⟨rfl, rfl, rfl⟩), rfl⟩
    obtain ⟨s, N, hN, hcase, hwl⟩ := hs
    rw [hwl] at HR
    have HWAT : Aside0 (∀ (t : Int) (gn : Nat) (W : World), GlobA W → W.heap[gn]? = some (.cells #[.int .i64 a0] 3 (0, 0)) → 0 ≤ t → t < 64 → Calls Tryd.prog 18 #[.int .i64 t, .pointer (some ⟨gn, 0, none⟩)] W fun e w' => e = .returned (.int .i64 (winAt s t)) ∧ Below W.heap.size W w') :=
      ⟨fun t gn W g h h0 h1 => win_at a0 s t gn W g h (by rcases hcase with ⟨a, b, _⟩ | ⟨a, b, _⟩ | ⟨a, b, _⟩ <;> simp [a, b]) h0 h1⟩
    have hN64 : N ≤ 64 := by rcases hcase with ⟨_, _, a⟩ | ⟨_, _, a⟩ | ⟨_, _, a⟩ <;> omega
    have hmk := print_make 24 3 .i64 8 Tryd.underlying24 win_info (by decide) N (by omega)
    have hN0 : 0 < N := by rcases hcase with ⟨_, _, a⟩ | ⟨_, _, a⟩ | ⟨_, _, a⟩ <;> omega
    have HU := Aside0.mk (win_upto s N)
    clear hwl
    rcases hcase with ⟨rfl, rfl, rfl⟩ | ⟨rfl, rfl, rfl⟩ | ⟨rfl, rfl, rfl⟩
    · clear hn hN
      simp only [Int.cast_ofNat_Int] at hmk
      go_enter Tryd.func10, Tryd.ntmps10
      go_wp2
      go_loopw [16] (fun v wr => ∃ (t : Nat) (xs : List Int), t ≤ xs.length ∧ v = .int .i64 (t : Int) ∧ Aside0 (xs.length = 16) ∧ Aside0 (∀ j, j < t → xs.getD j 0 = winAt 4 (j : Int)) ∧ Aside0 (wr.heap[w.heap.size]? = some (.cells #[.int .i64 16] 3 (0, 0))) ∧ Aside0 (wr.ownsRow w.heap.size 3 1 (.slice (some ⟨w.heap.size + 1, 0, none⟩) 16 16) 16 (nums .i64 xs)) ∧ Aside0 (Below w.heap.size w wr)) (fun v _ => 16 - (intOf v).toNat)
      case atStart =>
        refine ⟨0, List.replicate 16 0, by simp, rfl, ⟨by simp⟩, ⟨fun j hj => by omega⟩, ⟨?_⟩, ⟨?_⟩, ⟨by repeat (first | exact Below.refl _ _ | apply below_alloc)⟩⟩
        · rw [Below.heap_alloc _ _ _ (by simp)]
          exact heap_alloc_new w _
        · have := own_made (w.alloc (.cells #[.int .i64 16] 3)) w.heap.size 3 .i64 16 (by simp) (by decide)
          simpa using this
      case round =>
        obtain ⟨t, xs, ht, rfl, HL, HJ, HBX, HOWN, HB⟩ := hrel
        have hlen := HL.out
        by_cases hlt : t < 16
        · go_wp2_with (go_at_call 18; refine (HWAT.out _ _ _ (HG.out.below HB.out) HBX.out (by omega) (by omega)).mono ?_; rintro e w2 ⟨rfl, hb⟩; have HOWN2 := Aside0.mk (pw_own_below HOWN.out hb); have HBX2 := Aside0.mk (blk_grown HBX.out (grown_of_below hb none) (by simp)); have HB2 := Aside0.mk (below_then HB.out HB.out.size hb); have hfz := (own_at HOWN2.out (t : Int) (by omega) (by omega)).2; have hcz := (own_at HOWN2.out (t : Int) (by omega) (by omega)).1; rw [Int.toNat_natCast] at hfz hcz; clear hb)
          clear hfz hcz
          have hst := own_store HOWN2.out (t : Int) (winAt 4 (t : Int))
          rw [Int.toNat_natCast] at hst
          have hbase : w.heap.size < w.heap.size + 1 := by omega
          refine ⟨⟨t + 1, xs.set t (winAt 4 (t : Int)), by simp; omega, by go_num, ⟨by simp [hlen]⟩, ⟨?_⟩, ⟨blk_grown HBX2.out hst.2 (by simp)⟩, ⟨hst.1⟩, ⟨Below.grown HB2.out hst.2 HB2.out.size (fun k hk => by injection hk with hk; omega)⟩⟩, by simp [intOf]; omega⟩
          intro j hj
          by_cases hjt : j = t
          · subst hjt
            rw [List.getD_eq_getElem?_getD, List.getElem?_set_self (by omega)]
            rfl
          · have := HJ.out j (by omega)
            rw [List.getD_eq_getElem?_getD] at this ⊢
            rw [List.getElem?_set_ne (by omega)]
            exact this
        · obtain rfl : t = 16 := by omega
          go_wp2
          go_ret
          refine ⟨_, rfl, ?_, HB.out⟩
          rw [← HR.out, ← HU.out xs hlen HJ.out]
          have hown := HOWN.out
          have hR := Kd.R_of_own (enc := Value.int .i64) (h1 := fun _ => rfl) (ok := fun _ => True) (xs := xs) (by rw [hlen]; exact hown) (fun _ _ => trivial)
          exact hR
    · clear hn hN
      simp only [Int.cast_ofNat_Int] at hmk
      go_enter Tryd.func10, Tryd.ntmps10
      go_wp2
      go_loopw [16] (fun v wr => ∃ (t : Nat) (xs : List Int), t ≤ xs.length ∧ v = .int .i64 (t : Int) ∧ Aside0 (xs.length = 32) ∧ Aside0 (∀ j, j < t → xs.getD j 0 = winAt 2 (j : Int)) ∧ Aside0 (wr.heap[w.heap.size]? = some (.cells #[.int .i64 32] 3 (0, 0))) ∧ Aside0 (wr.ownsRow w.heap.size 3 1 (.slice (some ⟨w.heap.size + 1, 0, none⟩) 32 32) 32 (nums .i64 xs)) ∧ Aside0 (Below w.heap.size w wr)) (fun v _ => 32 - (intOf v).toNat)
      case atStart =>
        refine ⟨0, List.replicate 32 0, by simp, rfl, ⟨by simp⟩, ⟨fun j hj => by omega⟩, ⟨?_⟩, ⟨?_⟩, ⟨by repeat (first | exact Below.refl _ _ | apply below_alloc)⟩⟩
        · rw [Below.heap_alloc _ _ _ (by simp)]
          exact heap_alloc_new w _
        · have := own_made (w.alloc (.cells #[.int .i64 32] 3)) w.heap.size 3 .i64 32 (by simp) (by decide)
          simpa using this
      case round =>
        obtain ⟨t, xs, ht, rfl, HL, HJ, HBX, HOWN, HB⟩ := hrel
        have hlen := HL.out
        by_cases hlt : t < 32
        · go_wp2_with (go_at_call 18; refine (HWAT.out _ _ _ (HG.out.below HB.out) HBX.out (by omega) (by omega)).mono ?_; rintro e w2 ⟨rfl, hb⟩; have HOWN2 := Aside0.mk (pw_own_below HOWN.out hb); have HBX2 := Aside0.mk (blk_grown HBX.out (grown_of_below hb none) (by simp)); have HB2 := Aside0.mk (below_then HB.out HB.out.size hb); have hfz := (own_at HOWN2.out (t : Int) (by omega) (by omega)).2; have hcz := (own_at HOWN2.out (t : Int) (by omega) (by omega)).1; rw [Int.toNat_natCast] at hfz hcz; clear hb)
          clear hfz hcz
          have hst := own_store HOWN2.out (t : Int) (winAt 2 (t : Int))
          rw [Int.toNat_natCast] at hst
          have hbase : w.heap.size < w.heap.size + 1 := by omega
          refine ⟨⟨t + 1, xs.set t (winAt 2 (t : Int)), by simp; omega, by go_num, ⟨by simp [hlen]⟩, ⟨?_⟩, ⟨blk_grown HBX2.out hst.2 (by simp)⟩, ⟨hst.1⟩, ⟨Below.grown HB2.out hst.2 HB2.out.size (fun k hk => by injection hk with hk; omega)⟩⟩, by simp [intOf]; omega⟩
          intro j hj
          by_cases hjt : j = t
          · subst hjt
            rw [List.getD_eq_getElem?_getD, List.getElem?_set_self (by omega)]
            rfl
          · have := HJ.out j (by omega)
            rw [List.getD_eq_getElem?_getD] at this ⊢
            rw [List.getElem?_set_ne (by omega)]
            exact this
        · obtain rfl : t = 32 := by omega
          go_wp2
          go_ret
          refine ⟨_, rfl, ?_, HB.out⟩
          rw [← HR.out, ← HU.out xs hlen HJ.out]
          have hown := HOWN.out
          have hR := Kd.R_of_own (enc := Value.int .i64) (h1 := fun _ => rfl) (ok := fun _ => True) (xs := xs) (by rw [hlen]; exact hown) (fun _ _ => trivial)
          exact hR
    · clear hn hN
      simp only [Int.cast_ofNat_Int] at hmk
      go_enter Tryd.func10, Tryd.ntmps10
      go_wp2
      go_loopw [16] (fun v wr => ∃ (t : Nat) (xs : List Int), t ≤ xs.length ∧ v = .int .i64 (t : Int) ∧ Aside0 (xs.length = 64) ∧ Aside0 (∀ j, j < t → xs.getD j 0 = winAt 1 (j : Int)) ∧ Aside0 (wr.heap[w.heap.size]? = some (.cells #[.int .i64 64] 3 (0, 0))) ∧ Aside0 (wr.ownsRow w.heap.size 3 1 (.slice (some ⟨w.heap.size + 1, 0, none⟩) 64 64) 64 (nums .i64 xs)) ∧ Aside0 (Below w.heap.size w wr)) (fun v _ => 64 - (intOf v).toNat)
      case atStart =>
        refine ⟨0, List.replicate 64 0, by simp, rfl, ⟨by simp⟩, ⟨fun j hj => by omega⟩, ⟨?_⟩, ⟨?_⟩, ⟨by repeat (first | exact Below.refl _ _ | apply below_alloc)⟩⟩
        · rw [Below.heap_alloc _ _ _ (by simp)]
          exact heap_alloc_new w _
        · have := own_made (w.alloc (.cells #[.int .i64 64] 3)) w.heap.size 3 .i64 64 (by simp) (by decide)
          simpa using this
      case round =>
        obtain ⟨t, xs, ht, rfl, HL, HJ, HBX, HOWN, HB⟩ := hrel
        have hlen := HL.out
        by_cases hlt : t < 64
        · go_wp2_with (go_at_call 18; refine (HWAT.out _ _ _ (HG.out.below HB.out) HBX.out (by omega) (by omega)).mono ?_; rintro e w2 ⟨rfl, hb⟩; have HOWN2 := Aside0.mk (pw_own_below HOWN.out hb); have HBX2 := Aside0.mk (blk_grown HBX.out (grown_of_below hb none) (by simp)); have HB2 := Aside0.mk (below_then HB.out HB.out.size hb); have hfz := (own_at HOWN2.out (t : Int) (by omega) (by omega)).2; have hcz := (own_at HOWN2.out (t : Int) (by omega) (by omega)).1; rw [Int.toNat_natCast] at hfz hcz; clear hb)
          clear hfz hcz
          have hst := own_store HOWN2.out (t : Int) (winAt 1 (t : Int))
          rw [Int.toNat_natCast] at hst
          have hbase : w.heap.size < w.heap.size + 1 := by omega
          refine ⟨⟨t + 1, xs.set t (winAt 1 (t : Int)), by simp; omega, by go_num, ⟨by simp [hlen]⟩, ⟨?_⟩, ⟨blk_grown HBX2.out hst.2 (by simp)⟩, ⟨hst.1⟩, ⟨Below.grown HB2.out hst.2 HB2.out.size (fun k hk => by injection hk with hk; omega)⟩⟩, by simp [intOf]; omega⟩
          intro j hj
          by_cases hjt : j = t
          · subst hjt
            rw [List.getD_eq_getElem?_getD, List.getElem?_set_self (by omega)]
            rfl
          · have := HJ.out j (by omega)
            rw [List.getD_eq_getElem?_getD] at this ⊢
            rw [List.getElem?_set_ne (by omega)]
            exact this
        · obtain rfl : t = 64 := by omega
          go_wp2
          go_ret
          refine ⟨_, rfl, ?_, HB.out⟩
          rw [← HR.out, ← HU.out xs hlen HJ.out]
          have hown := HOWN.out
          have hR := Kd.R_of_own (enc := Value.int .i64) (h1 := fun _ => rfl) (ok := fun _ => True) (xs := xs) (by rw [hlen]; exact hown) (fun _ _ => trivial)
          exact hR
  · have d1 : (a0 == 16) = false := by simp; omega
    have d2 : (a0 == 32) = false := by simp; omega
    have d3 : (a0 == 64) = false := by simp; omega
    have HE : Aside0 (r = []) := ⟨by rw [← HR.out, winList, if_neg (by omega), if_neg (by omega), if_neg (by omega)]⟩
    clear hn HR
    go_enter Tryd.func10, Tryd.ntmps10
    go_wp2
    go_ret
    exact ⟨_, rfl, by rw [HE.out]; exact Kd.R_nil _ _ _ _ _, by repeat (first | exact Below.refl _ _ | apply below_alloc | apply pw_below_drewN)⟩

/-! ### circle_Sin: function 16 -/
def circle_Sin.f (a0 : Int) : Option (Int) := (circle_Rest.f a0).bind fun t104 => ((circle_Cos.f (wrap64 (t104 - 16))).bind fun t105 => (some t105))
set_option maxHeartbeats 8000000 in
set_option maxRecDepth 100000 in
theorem circle_Sin.calls (a0 : Int) (r : Int) (w : World) (hG : GlobA w) (h : circle_Sin.f a0 = some r) :
    Calls Tryd.prog 16 #[.int .i64 a0] w fun e w' => e = .returned (.int .i64 r) ∧ Drawn0 w w' := by
  have HG := Aside0.mk hG
  clear hG
  have H : ((circle_Rest.f a0).bind fun t104 => ((circle_Cos.f (wrap64 (t104 - 16))).bind fun t105 => (some t105))) = some r := h
  clear h
  replace H := Option.bind_eq_some_iff.mp H
  obtain ⟨t104, A20, H⟩ := H
  replace H : ((circle_Cos.f (wrap64 (t104 - 16))).bind fun t105 => (some t105)) = some r := H
  have A2 := Aside0.mk A20
  clear A20
  replace H := Option.bind_eq_some_iff.mp H
  obtain ⟨t105, A30, H⟩ := H
  replace H : (some t105) = some r := H
  have A3 := Aside0.mk A30
  clear A30
  obtain rfl := Option.some.inj H
  go_enter Tryd.func16, Tryd.ntmps16
  go_wp2_with (first | ((with_reducible refine gate_callee (f := 12) rfl ?_); refine goesL_ (some 4) rfl rfl Tryd.func12 (by kernel_rfl) rfl #[.int .i64 a0] rfl (by (try simp only [List.map_toArray, List.map_cons, List.map_nil]); first | done | rfl | (simp only [List.length_drop, List.length_take]; rfl)) ?_; (with_reducible refine (circle_Rest.calls a0 t104 _ A2.out).mono ?_); rintro e w' ⟨rfl, ⟨nd, rfl⟩⟩; refine ⟨_, rfl, ?_⟩) | ((with_reducible refine gate_callee (f := 14) rfl ?_); refine goesL_ (some 6) rfl rfl Tryd.func14 (by kernel_rfl) rfl #[.int .i64 (wrap64 (t104 - 16))] rfl (by (try simp only [List.map_toArray, List.map_cons, List.map_nil]); first | done | rfl | (simp only [List.length_drop, List.length_take]; rfl)) ?_; (with_reducible refine (circle_Cos.calls (wrap64 (t104 - 16)) t105 _ ?side1 A3.out).mono ?_); (case side1 => first | exact HG.out | exact GlobA.drewN HG.out _); rintro e w' ⟨rfl, ⟨nd, rfl⟩⟩; refine ⟨_, rfl, ?_⟩))
  go_ret
  exact ⟨by first | rfl | (simp; done) | (simp [*]; done), by repeat (first | exact Drawn0.refl _ | apply Drawn0.step)⟩

/-! ### earshotlaw04_awake: function 8 -/
def earshotlaw04_awake.f  : Option (Bool) := (circle_Window.f 16).bind fun t106 => ((circle_Cos.f 8).bind fun t109 => (if t109 = 11585 then ((circle_Sin.f 8).bind fun t110 => (if t110 = 11585 then ((circle_Cos.f 40).bind fun t111 => (if t111 = (-11585) then (if (t106.length : Int) = 16 then (if 0 < (t106.length : Int) then (if (rd t106 0) = 1310 then (if 8 < (t106.length : Int) then (some ((rd t106 8) == 16384)) else (none)) else (some false)) else (none)) else (some false)) else (some false))) else (some false))) else (some false)))
set_option maxHeartbeats 8000000 in
set_option maxRecDepth 100000 in
theorem earshotlaw04_awake.calls  (r : Bool) (w : World) (hG : GlobA w) (h : earshotlaw04_awake.f  = some r) :
    Calls Tryd.prog 8 #[] w fun e w' => e = .returned (.bool r) ∧ Below w.heap.size w w' := by
  have HB := Aside0.mk (Below.refl w.heap.size w)
  have HG := Aside0.mk hG
  clear hG
  have H : ((circle_Window.f 16).bind fun t106 => ((circle_Cos.f 8).bind fun t109 => (if t109 = 11585 then ((circle_Sin.f 8).bind fun t110 => (if t110 = 11585 then ((circle_Cos.f 40).bind fun t111 => (if t111 = (-11585) then (if (t106.length : Int) = 16 then (if 0 < (t106.length : Int) then (if (rd t106 0) = 1310 then (if 8 < (t106.length : Int) then (some ((rd t106 8) == 16384)) else (none)) else (some false)) else (none)) else (some false)) else (some false))) else (some false))) else (some false)))) = some r := h
  clear h
  replace H := Option.bind_eq_some_iff.mp H
  obtain ⟨t106, A10, H⟩ := H
  replace H : ((circle_Cos.f 8).bind fun t109 => (if t109 = 11585 then ((circle_Sin.f 8).bind fun t110 => (if t110 = 11585 then ((circle_Cos.f 40).bind fun t111 => (if t111 = (-11585) then (if (t106.length : Int) = 16 then (if 0 < (t106.length : Int) then (if (rd t106 0) = 1310 then (if 8 < (t106.length : Int) then (some ((rd t106 8) == 16384)) else (none)) else (some false)) else (none)) else (some false)) else (some false))) else (some false))) else (some false))) = some r := H
  have A1 := Aside0.mk A10
  clear A10
  replace H := Option.bind_eq_some_iff.mp H
  obtain ⟨t109, A20, H⟩ := H
  replace H : (if t109 = 11585 then ((circle_Sin.f 8).bind fun t110 => (if t110 = 11585 then ((circle_Cos.f 40).bind fun t111 => (if t111 = (-11585) then (if (t106.length : Int) = 16 then (if 0 < (t106.length : Int) then (if (rd t106 0) = 1310 then (if 8 < (t106.length : Int) then (some ((rd t106 8) == 16384)) else (none)) else (some false)) else (none)) else (some false)) else (some false))) else (some false))) else (some false)) = some r := H
  have A2 := Aside0.mk A20
  clear A20
  by_cases c3 : t109 = 11585
  · rw [if_pos c3] at H
    have c3b0 : (t109 == 11585) = true := beq_iff_eq.mpr c3
    have c3b1 : (t109 != 11585) = false := bne_eq_false_iff_eq.mpr c3
    clear c3
    replace H := Option.bind_eq_some_iff.mp H
    obtain ⟨t110, A40, H⟩ := H
    replace H : (if t110 = 11585 then ((circle_Cos.f 40).bind fun t111 => (if t111 = (-11585) then (if (t106.length : Int) = 16 then (if 0 < (t106.length : Int) then (if (rd t106 0) = 1310 then (if 8 < (t106.length : Int) then (some ((rd t106 8) == 16384)) else (none)) else (some false)) else (none)) else (some false)) else (some false))) else (some false)) = some r := H
    have A4 := Aside0.mk A40
    clear A40
    by_cases c5 : t110 = 11585
    · rw [if_pos c5] at H
      have c5b0 : (t110 == 11585) = true := beq_iff_eq.mpr c5
      have c5b1 : (t110 != 11585) = false := bne_eq_false_iff_eq.mpr c5
      clear c5
      replace H := Option.bind_eq_some_iff.mp H
      obtain ⟨t111, A60, H⟩ := H
      replace H : (if t111 = (-11585) then (if (t106.length : Int) = 16 then (if 0 < (t106.length : Int) then (if (rd t106 0) = 1310 then (if 8 < (t106.length : Int) then (some ((rd t106 8) == 16384)) else (none)) else (some false)) else (none)) else (some false)) else (some false)) = some r := H
      have A6 := Aside0.mk A60
      clear A60
      by_cases c7 : t111 = (-11585)
      · rw [if_pos c7] at H
        have c7b0 : (t111 == (-11585)) = true := beq_iff_eq.mpr c7
        have c7b1 : (t111 != (-11585)) = false := bne_eq_false_iff_eq.mpr c7
        clear c7
        by_cases c8 : (t106.length : Int) = 16
        · rw [if_pos c8] at H
          have c8b0 : ((t106.length : Int) == 16) = true := beq_iff_eq.mpr c8
          have c8b1 : ((t106.length : Int) != 16) = false := bne_eq_false_iff_eq.mpr c8
          clear c8
          by_cases c9 : 0 < (t106.length : Int)
          · rw [if_pos c9] at H
            have c9b0 : decide (0 < (t106.length : Int)) = true := decide_eq_true c9
            have c9b1 : decide (0 < t106.length) = true := decide_eq_true (by omega)
            clear c9
            by_cases c10 : (rd t106 0) = 1310
            · rw [if_pos c10] at H
              have c10b0 : ((rd t106 0) == 1310) = true := beq_iff_eq.mpr c10
              have c10b1 : ((rd t106 0) != 1310) = false := bne_eq_false_iff_eq.mpr c10
              clear c10
              by_cases c11 : 8 < (t106.length : Int)
              · rw [if_pos c11] at H
                have c11b0 : decide (8 < (t106.length : Int)) = true := decide_eq_true c11
                have c11b1 : decide (8 < t106.length) = true := decide_eq_true (by omega)
                clear c11
                obtain rfl := Option.some.inj H
                go_enter Tryd.func8, Tryd.ntmps8
                go_wp2_with (first | ((with_reducible refine gate_callee (f := 10) rfl ?_); refine goesL_ (some 2) rfl rfl Tryd.func10 (by kernel_rfl) rfl #[.int .i64 16] rfl (by (try simp only [List.map_toArray, List.map_cons, List.map_nil]); first | done | rfl | (simp only [List.length_drop, List.length_take]; rfl)) ?_; (with_reducible refine (circle_Window.calls 16 t106 _ ?side1 A1.out).mono ?_); (case side1 => exact GlobA.below HG.out (by repeat (first | (with_reducible first | exact HB.out | apply below_alloc | apply pw_below_drewN | apply below_drew1) | exact HB.out))); rintro e w12 ⟨v107, rfl, ho0, hb⟩; refine ⟨_, rfl, ?_⟩; have n0_ := Aside0.mk (Kd.R_lower ho0 (below_size (by repeat (first | (with_reducible first | exact HB.out | apply below_alloc | apply pw_below_drewN | apply below_drew1) | exact HB.out)))); have n1_ := Aside0.mk (below_step (by repeat (first | (with_reducible first | exact HB.out | apply below_alloc | apply pw_below_drewN | apply below_drew1) | exact HB.out)) hb); clear HB; have HO108 := n0_; have HB := n1_; clear n0_ n1_; (try clear hb); (try clear hb2); (try clear hk); (try clear hi); (try clear ho0)) | ((with_reducible refine gate_callee (f := 14) rfl ?_); refine goesL_ (some 3) rfl rfl Tryd.func14 (by kernel_rfl) rfl #[.int .i64 8] rfl (by (try simp only [List.map_toArray, List.map_cons, List.map_nil]); first | done | rfl | (simp only [List.length_drop, List.length_take]; rfl)) ?_; (with_reducible refine (circle_Cos.calls 8 t109 _ ?side1 A2.out).mono ?_); (case side1 => exact GlobA.below HG.out (by repeat (first | (with_reducible first | exact HB.out | apply below_alloc | apply pw_below_drewN | apply below_drew1) | exact HB.out))); rintro e w' ⟨rfl, ⟨nd, rfl⟩⟩; refine ⟨_, rfl, ?_⟩) | (go_at_call 16; (with_reducible refine (circle_Sin.calls 8 t110 _ ?side1 A4.out).mono ?_); (case side1 => exact GlobA.below HG.out (by repeat (first | (with_reducible first | exact HB.out | apply below_alloc | apply pw_below_drewN | apply below_drew1) | exact HB.out))); rintro e w' ⟨rfl, ⟨nd, rfl⟩⟩) | (go_at_call 14; (with_reducible refine (circle_Cos.calls 40 t111 _ ?side1 A6.out).mono ?_); (case side1 => exact GlobA.below HG.out (by repeat (first | (with_reducible first | exact HB.out | apply below_alloc | apply pw_below_drewN | apply below_drew1) | exact HB.out))); rintro e w' ⟨rfl, ⟨nd, rfl⟩⟩; obtain ⟨Ao13, co13, eo13⟩ := Kd.R_slice HO108.out; subst eo13; have p112 : 0 ≤ (0 : Int) := (by omega); have q112 : 0 < (t106.length : Int) := of_decide_eq_true (by first | (with_reducible assumption) | assumption); obtain ⟨ad112, e112, hx112_0⟩ := Kd.at_int (Kd.R_reads' HO108.out).2.2 0 p112 q112; cases e112; have qi112 : (0 < t106.length) = True := eq_true (by omega); (try rw [show ((0 : Int)).toNat = 0 from rfl] at hx112_0); (try rw [Addr.add_zero'] at hx112_0); replace p112 := eq_true p112; replace q112 := eq_true q112; have p113 : 0 ≤ (8 : Int) := (by omega); have q113 : 8 < (t106.length : Int) := of_decide_eq_true (by first | (with_reducible assumption) | assumption); obtain ⟨ad113, e113, hx113_0⟩ := Kd.at_int (Kd.R_reads' HO108.out).2.2 8 p113 q113; obtain rfl : ad112 = ad113 := (by injection e113); (try simp only [show (8 : Int).toNat = 8 from rfl, Nat.reduceMul, Nat.reduceEqDiff, Go.Addr.add, ↓reduceIte] at hx113_0); have qi113 : (8 < t106.length) = True := eq_true (by omega); (try rw [show ((8 : Int)).toNat = 8 from rfl] at hx113_0); replace p113 := eq_true p113; replace q113 := eq_true q113))
                go_ret
                exact ⟨by first | rfl | (simp [errW_none, errW_some] <;> rfl) | (simp [*, errW_none, errW_some] <;> rfl), by repeat (first | (with_reducible first | exact HB.out | apply below_alloc | apply pw_below_drewN | apply below_drew1) | exact HB.out)⟩
              · rw [if_neg c11] at H
                exact absurd H (by simp)
            · rw [if_neg c10] at H
              have c10b0 : ((rd t106 0) == 1310) = false := beq_eq_false_iff_ne.mpr c10
              have c10b1 : ((rd t106 0) != 1310) = true := bne_iff_ne.mpr c10
              obtain rfl := Option.some.inj H
              go_enter Tryd.func8, Tryd.ntmps8
              go_wp2_with (first | ((with_reducible refine gate_callee (f := 10) rfl ?_); refine goesL_ (some 2) rfl rfl Tryd.func10 (by kernel_rfl) rfl #[.int .i64 16] rfl (by (try simp only [List.map_toArray, List.map_cons, List.map_nil]); first | done | rfl | (simp only [List.length_drop, List.length_take]; rfl)) ?_; (with_reducible refine (circle_Window.calls 16 t106 _ ?side1 A1.out).mono ?_); (case side1 => exact GlobA.below HG.out (by repeat (first | (with_reducible first | exact HB.out | apply below_alloc | apply pw_below_drewN | apply below_drew1) | exact HB.out))); rintro e w14 ⟨v107, rfl, ho0, hb⟩; refine ⟨_, rfl, ?_⟩; have n0_ := Aside0.mk (Kd.R_lower ho0 (below_size (by repeat (first | (with_reducible first | exact HB.out | apply below_alloc | apply pw_below_drewN | apply below_drew1) | exact HB.out)))); have n1_ := Aside0.mk (below_step (by repeat (first | (with_reducible first | exact HB.out | apply below_alloc | apply pw_below_drewN | apply below_drew1) | exact HB.out)) hb); clear HB; have HO108 := n0_; have HB := n1_; clear n0_ n1_; (try clear hb); (try clear hb2); (try clear hk); (try clear hi); (try clear ho0)) | ((with_reducible refine gate_callee (f := 14) rfl ?_); refine goesL_ (some 3) rfl rfl Tryd.func14 (by kernel_rfl) rfl #[.int .i64 8] rfl (by (try simp only [List.map_toArray, List.map_cons, List.map_nil]); first | done | rfl | (simp only [List.length_drop, List.length_take]; rfl)) ?_; (with_reducible refine (circle_Cos.calls 8 t109 _ ?side1 A2.out).mono ?_); (case side1 => exact GlobA.below HG.out (by repeat (first | (with_reducible first | exact HB.out | apply below_alloc | apply pw_below_drewN | apply below_drew1) | exact HB.out))); rintro e w' ⟨rfl, ⟨nd, rfl⟩⟩; refine ⟨_, rfl, ?_⟩) | (go_at_call 16; (with_reducible refine (circle_Sin.calls 8 t110 _ ?side1 A4.out).mono ?_); (case side1 => exact GlobA.below HG.out (by repeat (first | (with_reducible first | exact HB.out | apply below_alloc | apply pw_below_drewN | apply below_drew1) | exact HB.out))); rintro e w' ⟨rfl, ⟨nd, rfl⟩⟩) | (go_at_call 14; (with_reducible refine (circle_Cos.calls 40 t111 _ ?side1 A6.out).mono ?_); (case side1 => exact GlobA.below HG.out (by repeat (first | (with_reducible first | exact HB.out | apply below_alloc | apply pw_below_drewN | apply below_drew1) | exact HB.out))); rintro e w' ⟨rfl, ⟨nd, rfl⟩⟩; obtain ⟨Ao15, co15, eo15⟩ := Kd.R_slice HO108.out; subst eo15; have p112 : 0 ≤ (0 : Int) := (by omega); have q112 : 0 < (t106.length : Int) := of_decide_eq_true (by first | (with_reducible assumption) | assumption); obtain ⟨ad112, e112, hx112_0⟩ := Kd.at_int (Kd.R_reads' HO108.out).2.2 0 p112 q112; cases e112; have qi112 : (0 < t106.length) = True := eq_true (by omega); (try rw [show ((0 : Int)).toNat = 0 from rfl] at hx112_0); (try rw [Addr.add_zero'] at hx112_0); replace p112 := eq_true p112; replace q112 := eq_true q112))
              go_ret
              exact ⟨by first | rfl | (simp [errW_none, errW_some] <;> rfl) | (simp [*, errW_none, errW_some] <;> rfl), by repeat (first | (with_reducible first | exact HB.out | apply below_alloc | apply pw_below_drewN | apply below_drew1) | exact HB.out)⟩
          · rw [if_neg c9] at H
            exact absurd H (by simp)
        · rw [if_neg c8] at H
          have c8b0 : ((t106.length : Int) == 16) = false := beq_eq_false_iff_ne.mpr c8
          have c8b1 : ((t106.length : Int) != 16) = true := bne_iff_ne.mpr c8
          obtain rfl := Option.some.inj H
          go_enter Tryd.func8, Tryd.ntmps8
          go_wp2_with (first | ((with_reducible refine gate_callee (f := 10) rfl ?_); refine goesL_ (some 2) rfl rfl Tryd.func10 (by kernel_rfl) rfl #[.int .i64 16] rfl (by (try simp only [List.map_toArray, List.map_cons, List.map_nil]); first | done | rfl | (simp only [List.length_drop, List.length_take]; rfl)) ?_; (with_reducible refine (circle_Window.calls 16 t106 _ ?side1 A1.out).mono ?_); (case side1 => exact GlobA.below HG.out (by repeat (first | (with_reducible first | exact HB.out | apply below_alloc | apply pw_below_drewN | apply below_drew1) | exact HB.out))); rintro e w16 ⟨v107, rfl, ho0, hb⟩; refine ⟨_, rfl, ?_⟩; have n0_ := Aside0.mk (Kd.R_lower ho0 (below_size (by repeat (first | (with_reducible first | exact HB.out | apply below_alloc | apply pw_below_drewN | apply below_drew1) | exact HB.out)))); have n1_ := Aside0.mk (below_step (by repeat (first | (with_reducible first | exact HB.out | apply below_alloc | apply pw_below_drewN | apply below_drew1) | exact HB.out)) hb); clear HB; have HO108 := n0_; have HB := n1_; clear n0_ n1_; (try clear hb); (try clear hb2); (try clear hk); (try clear hi); (try clear ho0)) | ((with_reducible refine gate_callee (f := 14) rfl ?_); refine goesL_ (some 3) rfl rfl Tryd.func14 (by kernel_rfl) rfl #[.int .i64 8] rfl (by (try simp only [List.map_toArray, List.map_cons, List.map_nil]); first | done | rfl | (simp only [List.length_drop, List.length_take]; rfl)) ?_; (with_reducible refine (circle_Cos.calls 8 t109 _ ?side1 A2.out).mono ?_); (case side1 => exact GlobA.below HG.out (by repeat (first | (with_reducible first | exact HB.out | apply below_alloc | apply pw_below_drewN | apply below_drew1) | exact HB.out))); rintro e w' ⟨rfl, ⟨nd, rfl⟩⟩; refine ⟨_, rfl, ?_⟩) | (go_at_call 16; (with_reducible refine (circle_Sin.calls 8 t110 _ ?side1 A4.out).mono ?_); (case side1 => exact GlobA.below HG.out (by repeat (first | (with_reducible first | exact HB.out | apply below_alloc | apply pw_below_drewN | apply below_drew1) | exact HB.out))); rintro e w' ⟨rfl, ⟨nd, rfl⟩⟩) | (go_at_call 14; (with_reducible refine (circle_Cos.calls 40 t111 _ ?side1 A6.out).mono ?_); (case side1 => exact GlobA.below HG.out (by repeat (first | (with_reducible first | exact HB.out | apply below_alloc | apply pw_below_drewN | apply below_drew1) | exact HB.out))); rintro e w' ⟨rfl, ⟨nd, rfl⟩⟩; obtain ⟨Ao17, co17, eo17⟩ := Kd.R_slice HO108.out; subst eo17))
          go_ret
          exact ⟨by first | rfl | (simp [errW_none, errW_some] <;> rfl) | (simp [*, errW_none, errW_some] <;> rfl), by repeat (first | (with_reducible first | exact HB.out | apply below_alloc | apply pw_below_drewN | apply below_drew1) | exact HB.out)⟩
      · rw [if_neg c7] at H
        have c7b0 : (t111 == (-11585)) = false := beq_eq_false_iff_ne.mpr c7
        have c7b1 : (t111 != (-11585)) = true := bne_iff_ne.mpr c7
        obtain rfl := Option.some.inj H
        go_enter Tryd.func8, Tryd.ntmps8
        go_wp2_with (first | ((with_reducible refine gate_callee (f := 10) rfl ?_); refine goesL_ (some 2) rfl rfl Tryd.func10 (by kernel_rfl) rfl #[.int .i64 16] rfl (by (try simp only [List.map_toArray, List.map_cons, List.map_nil]); first | done | rfl | (simp only [List.length_drop, List.length_take]; rfl)) ?_; (with_reducible refine (circle_Window.calls 16 t106 _ ?side1 A1.out).mono ?_); (case side1 => exact GlobA.below HG.out (by repeat (first | (with_reducible first | exact HB.out | apply below_alloc | apply pw_below_drewN | apply below_drew1) | exact HB.out))); rintro e w18 ⟨v107, rfl, ho0, hb⟩; refine ⟨_, rfl, ?_⟩; have n0_ := Aside0.mk (Kd.R_lower ho0 (below_size (by repeat (first | (with_reducible first | exact HB.out | apply below_alloc | apply pw_below_drewN | apply below_drew1) | exact HB.out)))); have n1_ := Aside0.mk (below_step (by repeat (first | (with_reducible first | exact HB.out | apply below_alloc | apply pw_below_drewN | apply below_drew1) | exact HB.out)) hb); clear HB; have HO108 := n0_; have HB := n1_; clear n0_ n1_; (try clear hb); (try clear hb2); (try clear hk); (try clear hi); (try clear ho0)) | ((with_reducible refine gate_callee (f := 14) rfl ?_); refine goesL_ (some 3) rfl rfl Tryd.func14 (by kernel_rfl) rfl #[.int .i64 8] rfl (by (try simp only [List.map_toArray, List.map_cons, List.map_nil]); first | done | rfl | (simp only [List.length_drop, List.length_take]; rfl)) ?_; (with_reducible refine (circle_Cos.calls 8 t109 _ ?side1 A2.out).mono ?_); (case side1 => exact GlobA.below HG.out (by repeat (first | (with_reducible first | exact HB.out | apply below_alloc | apply pw_below_drewN | apply below_drew1) | exact HB.out))); rintro e w' ⟨rfl, ⟨nd, rfl⟩⟩; refine ⟨_, rfl, ?_⟩) | (go_at_call 16; (with_reducible refine (circle_Sin.calls 8 t110 _ ?side1 A4.out).mono ?_); (case side1 => exact GlobA.below HG.out (by repeat (first | (with_reducible first | exact HB.out | apply below_alloc | apply pw_below_drewN | apply below_drew1) | exact HB.out))); rintro e w' ⟨rfl, ⟨nd, rfl⟩⟩) | (go_at_call 14; (with_reducible refine (circle_Cos.calls 40 t111 _ ?side1 A6.out).mono ?_); (case side1 => exact GlobA.below HG.out (by repeat (first | (with_reducible first | exact HB.out | apply below_alloc | apply pw_below_drewN | apply below_drew1) | exact HB.out))); rintro e w' ⟨rfl, ⟨nd, rfl⟩⟩))
        go_ret
        exact ⟨by first | rfl | (simp [errW_none, errW_some] <;> rfl) | (simp [*, errW_none, errW_some] <;> rfl), by repeat (first | (with_reducible first | exact HB.out | apply below_alloc | apply pw_below_drewN | apply below_drew1) | exact HB.out)⟩
    · rw [if_neg c5] at H
      have c5b0 : (t110 == 11585) = false := beq_eq_false_iff_ne.mpr c5
      have c5b1 : (t110 != 11585) = true := bne_iff_ne.mpr c5
      obtain rfl := Option.some.inj H
      go_enter Tryd.func8, Tryd.ntmps8
      go_wp2_with (first | ((with_reducible refine gate_callee (f := 10) rfl ?_); refine goesL_ (some 2) rfl rfl Tryd.func10 (by kernel_rfl) rfl #[.int .i64 16] rfl (by (try simp only [List.map_toArray, List.map_cons, List.map_nil]); first | done | rfl | (simp only [List.length_drop, List.length_take]; rfl)) ?_; (with_reducible refine (circle_Window.calls 16 t106 _ ?side1 A1.out).mono ?_); (case side1 => exact GlobA.below HG.out (by repeat (first | (with_reducible first | exact HB.out | apply below_alloc | apply pw_below_drewN | apply below_drew1) | exact HB.out))); rintro e w19 ⟨v107, rfl, ho0, hb⟩; refine ⟨_, rfl, ?_⟩; have n0_ := Aside0.mk (Kd.R_lower ho0 (below_size (by repeat (first | (with_reducible first | exact HB.out | apply below_alloc | apply pw_below_drewN | apply below_drew1) | exact HB.out)))); have n1_ := Aside0.mk (below_step (by repeat (first | (with_reducible first | exact HB.out | apply below_alloc | apply pw_below_drewN | apply below_drew1) | exact HB.out)) hb); clear HB; have HO108 := n0_; have HB := n1_; clear n0_ n1_; (try clear hb); (try clear hb2); (try clear hk); (try clear hi); (try clear ho0)) | ((with_reducible refine gate_callee (f := 14) rfl ?_); refine goesL_ (some 3) rfl rfl Tryd.func14 (by kernel_rfl) rfl #[.int .i64 8] rfl (by (try simp only [List.map_toArray, List.map_cons, List.map_nil]); first | done | rfl | (simp only [List.length_drop, List.length_take]; rfl)) ?_; (with_reducible refine (circle_Cos.calls 8 t109 _ ?side1 A2.out).mono ?_); (case side1 => exact GlobA.below HG.out (by repeat (first | (with_reducible first | exact HB.out | apply below_alloc | apply pw_below_drewN | apply below_drew1) | exact HB.out))); rintro e w' ⟨rfl, ⟨nd, rfl⟩⟩; refine ⟨_, rfl, ?_⟩) | (go_at_call 16; (with_reducible refine (circle_Sin.calls 8 t110 _ ?side1 A4.out).mono ?_); (case side1 => exact GlobA.below HG.out (by repeat (first | (with_reducible first | exact HB.out | apply below_alloc | apply pw_below_drewN | apply below_drew1) | exact HB.out))); rintro e w' ⟨rfl, ⟨nd, rfl⟩⟩))
      go_ret
      exact ⟨by first | rfl | (simp [errW_none, errW_some] <;> rfl) | (simp [*, errW_none, errW_some] <;> rfl), by repeat (first | (with_reducible first | exact HB.out | apply below_alloc | apply pw_below_drewN | apply below_drew1) | exact HB.out)⟩
  · rw [if_neg c3] at H
    have c3b0 : (t109 == 11585) = false := beq_eq_false_iff_ne.mpr c3
    have c3b1 : (t109 != 11585) = true := bne_iff_ne.mpr c3
    obtain rfl := Option.some.inj H
    go_enter Tryd.func8, Tryd.ntmps8
    go_wp2_with (first | ((with_reducible refine gate_callee (f := 10) rfl ?_); refine goesL_ (some 2) rfl rfl Tryd.func10 (by kernel_rfl) rfl #[.int .i64 16] rfl (by (try simp only [List.map_toArray, List.map_cons, List.map_nil]); first | done | rfl | (simp only [List.length_drop, List.length_take]; rfl)) ?_; (with_reducible refine (circle_Window.calls 16 t106 _ ?side1 A1.out).mono ?_); (case side1 => exact GlobA.below HG.out (by repeat (first | (with_reducible first | exact HB.out | apply below_alloc | apply pw_below_drewN | apply below_drew1) | exact HB.out))); rintro e w20 ⟨v107, rfl, ho0, hb⟩; refine ⟨_, rfl, ?_⟩; have n0_ := Aside0.mk (Kd.R_lower ho0 (below_size (by repeat (first | (with_reducible first | exact HB.out | apply below_alloc | apply pw_below_drewN | apply below_drew1) | exact HB.out)))); have n1_ := Aside0.mk (below_step (by repeat (first | (with_reducible first | exact HB.out | apply below_alloc | apply pw_below_drewN | apply below_drew1) | exact HB.out)) hb); clear HB; have HO108 := n0_; have HB := n1_; clear n0_ n1_; (try clear hb); (try clear hb2); (try clear hk); (try clear hi); (try clear ho0)) | ((with_reducible refine gate_callee (f := 14) rfl ?_); refine goesL_ (some 3) rfl rfl Tryd.func14 (by kernel_rfl) rfl #[.int .i64 8] rfl (by (try simp only [List.map_toArray, List.map_cons, List.map_nil]); first | done | rfl | (simp only [List.length_drop, List.length_take]; rfl)) ?_; (with_reducible refine (circle_Cos.calls 8 t109 _ ?side1 A2.out).mono ?_); (case side1 => exact GlobA.below HG.out (by repeat (first | (with_reducible first | exact HB.out | apply below_alloc | apply pw_below_drewN | apply below_drew1) | exact HB.out))); rintro e w' ⟨rfl, ⟨nd, rfl⟩⟩; refine ⟨_, rfl, ?_⟩))
    go_ret
    exact ⟨by first | rfl | (simp [errW_none, errW_some] <;> rfl) | (simp [*, errW_none, errW_some] <;> rfl), by repeat (first | (with_reducible first | exact HB.out | apply below_alloc | apply pw_below_drewN | apply below_drew1) | exact HB.out)⟩

end Go.Proofs.YtohmecfjpmapnaaDoor.PCircleWindow
