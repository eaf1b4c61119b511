/- The plain law of CircleTurns: what the printed functions compute answers as the statement says. No conditions beside the statement's own. -/
import Derived.Test.YtohmecfjpmapnaaDoorPCircleTurnsx2
namespace Go.Proofs.YtohmecfjpmapnaaDoor.Pure
open Go.RowKit Go.Proofs.YtohmecfjpmapnaaDoor.PCircleTurns Go.Proofs.YtohmecfjpmapnaaDoorW.PrintWords Go.Proofs.YtohmecfjpmapnaaDoorW.PrintLast Go.Proofs.YtohmecfjpmapnaaDoorW.PrintMore
set_option linter.unusedVariables false
set_option linter.unusedSimpArgs false
theorem bsome {α β : Type} (a : α) (f : α → Option β) : (some a).bind f = f a := by
  generalize h : some a = o
  cases o with
  | none => cases h
  | some b => cases h; rfl
theorem wf_range {x : Int} (h : (Lit.int .i64 x).wf = true) : -9223372036854775808 ≤ x ∧ x ≤ 9223372036854775807 := by
  simp [Lit.wf, IntKind.wrap, IntKind.bits, IntKind.signed] at h
  exact h
theorem ci_of {x : Int} (h0 : -9223372036854775808 ≤ x) (h1 : x ≤ 9223372036854775807) : ci64b x = true := by simp [ci64b, h0, h1]
theorem cos_mod {x : Int} (h0 : -9223372036854775808 ≤ x) (h1 : x ≤ 9223372036854775807) : circle_Cos.f x = circle_Cos.f (x % 64) := by
  unfold circle_Cos.f
  rw [if_pos (ci_of h0 h1), if_pos (ci_of (by omega) (by omega)), Int.emod_emod_of_dvd _ (Int.dvd_refl 64)]
theorem rest_mod {x : Int} (h0 : -9223372036854775808 ≤ x) (h1 : x ≤ 9223372036854775807) : circle_Rest.f x = circle_Rest.f (x % 64) := by
  rw [rest_some (ci_of h0 h1), rest_some (ci_of (by omega) (by omega)), Int.emod_emod_of_dvd _ (Int.dvd_refl 64)]
theorem sin_mod {x : Int} (h0 : -9223372036854775808 ≤ x) (h1 : x ≤ 9223372036854775807) : circle_Sin.f x = circle_Sin.f (x % 64) := by
  unfold circle_Sin.f
  rw [rest_mod h0 h1]
theorem awake_true : earshotlaw04_awake.f = some true := by decide +kernel
theorem turns_all : ∀ r : Fin 64, earshotlaw04_CircleTurns.f (8 * ((r.1 : Nat) : Int)) 0 = some true := by decide +kernel
theorem cos_same {x y : Int} (h0 : -9223372036854775808 ≤ x) (h1 : x ≤ 9223372036854775807) (k0 : -9223372036854775808 ≤ y) (k1 : y ≤ 9223372036854775807) (h : x % 64 = y % 64) : circle_Cos.f x = circle_Cos.f y := by
  rw [cos_mod h0 h1, cos_mod k0 k1, h]
theorem sin_same {x y : Int} (h0 : -9223372036854775808 ≤ x) (h1 : x ≤ 9223372036854775807) (k0 : -9223372036854775808 ≤ y) (k1 : y ≤ 9223372036854775807) (h : x % 64 = y % 64) : circle_Sin.f x = circle_Sin.f y := by
  rw [sin_mod h0 h1, sin_mod k0 k1, h]
theorem shift_all {x r t : Int} (x0 : -1152921504606846976 ≤ x) (x1 : x ≤ 1152921504606846975) (er : x % 64 = r) (t0 : -1000 < t) (t1 : t < 1000) :
    (circle_Cos.f x = circle_Cos.f r ∧ circle_Sin.f x = circle_Sin.f r ∧ circle_Cos.f (x + 64 * t) = circle_Cos.f r ∧ circle_Sin.f (x + 64 * t) = circle_Sin.f r) ∧
    (circle_Cos.f (x + 32) = circle_Cos.f (r + 32) ∧ circle_Sin.f (x + 32) = circle_Sin.f (r + 32)) ∧ (circle_Cos.f (-x) = circle_Cos.f (-r) ∧ circle_Sin.f (-x) = circle_Sin.f (-r)) ∧ circle_Sin.f (x + 16) = circle_Sin.f (r + 16) := by
  refine ⟨⟨cos_same ?_ ?_ ?_ ?_ ?_, sin_same ?_ ?_ ?_ ?_ ?_, cos_same ?_ ?_ ?_ ?_ ?_, sin_same ?_ ?_ ?_ ?_ ?_⟩, ⟨cos_same ?_ ?_ ?_ ?_ ?_, sin_same ?_ ?_ ?_ ?_ ?_⟩, ⟨cos_same ?_ ?_ ?_ ?_ ?_, sin_same ?_ ?_ ?_ ?_ ?_⟩, sin_same ?_ ?_ ?_ ?_ ?_⟩ <;> omega
theorem wraps_all {x t : Int} (x0 : -1152921504606846976 ≤ x) (x1 : x ≤ 1152921504606846975) (t0 : -1000 < t) (t1 : t < 1000) :
    wrap64 (x + wrap64 (64 * t)) = x + 64 * t ∧ wrap64 (x + 32) = x + 32 ∧ wrap64 (-x) = -x ∧ wrap64 (x + 16) = x + 16 := by
  unfold wrap64
  omega
theorem rest_zero {x r : Int} (x0 : -1152921504606846976 ≤ x) (x1 : x ≤ 1152921504606846975) (er : x % 64 = r) : Int.tmod (wrap64 (x - r)) 64 = 0 := by
  rw [show wrap64 (x - r) = x - r by unfold wrap64; omega, Int.tmod_eq_emod (a := x - r) (b := 64), if_pos (.inr (Int.dvd_of_emod_eq_zero (by omega)))]
  omega
theorem turns_same {a0 a1 x r t : Int} (ex : a0 / 8 = x) (et : Int.tmod a1 1000 = t) (x0 : -1152921504606846976 ≤ x) (x1 : x ≤ 1152921504606846975) (er : x % 64 = r) (t0 : -1000 < t) (t1 : t < 1000) :
    earshotlaw04_CircleTurns.f a0 a1 = (earshotlaw04_CircleTurns.f (8 * r) 0) := by
  obtain ⟨⟨c1, s1, c2, s2⟩, ⟨c3, s3⟩, ⟨c4, s4⟩, s5⟩ := shift_all x0 x1 er t0 t1
  obtain ⟨w1, w2, w3, w4⟩ := wraps_all x0 x1 t0 t1
  obtain ⟨v1, v2, v3, v4⟩ := wraps_all (x := r) (t := 0) (by omega) (by omega) (by decide) (by decide)
  rw [Int.mul_zero, Int.add_zero] at v1
  have z1 := rest_zero x0 x1 er
  have z2 := rest_zero (x := r) (r := r) (by omega) (by omega) (by omega)
  have hr : circle_Rest.f x = some r := by rw [rest_some (ci_of (by omega) (by omega)), er]
  have hr2 : circle_Rest.f r = some r := by rw [rest_some (ci_of (by omega) (by omega)), show r % 64 = r by omega]
  have e8 : 8 * r / 8 = r := by omega
  have ez : Int.tmod 0 1000 = 0 := rfl
  unfold earshotlaw04_CircleTurns.f
  rw [awake_true, ex, et, e8, ez, w1, w2, w3, w4, Int.mul_zero, v1, v2, v3, v4, c1, s1, c2, s2, c3, s3, c4, s4, s5, hr, hr2]
  simp only [bsome, z1, z2]
theorem CircleTurns : earshotlaw04_CircleTurns.Pure := by
  intro a0 a1 hx hy
  obtain ⟨h0, h1⟩ := wf_range hx
  have t0 : -1000 < Int.tmod a1 1000 := by have := Int.lt_tmod_of_pos a1 (show (0 : Int) < 1000 by decide); omega
  have t1 : Int.tmod a1 1000 < 1000 := Int.tmod_lt_of_pos a1 (by decide)
  rw [turns_same (r := a0 / 8 % 64) rfl rfl (by omega) (by omega) rfl t0 t1]
  have m0 := Int.emod_nonneg (a0 / 8) (show (64 : Int) ≠ 0 by decide)
  have m1 := Int.emod_lt_of_pos (a0 / 8) (show (0 : Int) < 64 by decide)
  obtain ⟨n, hn⟩ := Int.eq_ofNat_of_zero_le m0
  rw [hn] at m1 ⊢
  exact turns_all ⟨n, by omega⟩
end Go.Proofs.YtohmecfjpmapnaaDoor.Pure
