/- The plain law of CircleUnit: what the printed functions compute answers as the statement says. No conditions beside the statement's own. -/
import Derived.Test.YtohmecfjpmapnaaDoorPCircleUnitx1
namespace Go.Proofs.YtohmecfjpmapnaaDoor.Pure
open Go.RowKit Go.Proofs.YtohmecfjpmapnaaDoor.PCircleUnit Go.Proofs.YtohmecfjpmapnaaDoorW.PrintWords Go.Proofs.YtohmecfjpmapnaaDoorW.PrintLast Go.Proofs.YtohmecfjpmapnaaDoorW.PrintMore
set_option linter.unusedVariables false
set_option linter.unusedSimpArgs false
theorem wf_range {x : Int} (h : (Lit.int .i64 x).wf = true) : -9223372036854775808 ≤ x ∧ x ≤ 9223372036854775807 := by
  simp [Lit.wf, IntKind.wrap, IntKind.bits, IntKind.signed] at h
  exact h
theorem ci_of {x : Int} (h0 : -9223372036854775808 ≤ x) (h1 : x ≤ 9223372036854775807) : ci64b x = true := by simp [ci64b, h0, h1]
theorem cos_mod {x : Int} (h0 : -9223372036854775808 ≤ x) (h1 : x ≤ 9223372036854775807) : circle_Cos.f x = circle_Cos.f (x % 64) := by
  unfold circle_Cos.f
  rw [if_pos (ci_of h0 h1), if_pos (ci_of (by omega) (by omega)), Int.emod_emod_of_dvd _ (Int.dvd_refl 64)]
theorem rest_mod {x : Int} (h0 : -9223372036854775808 ≤ x) (h1 : x ≤ 9223372036854775807) : circle_Rest.f x = circle_Rest.f (x % 64) := by
  rw [rest_some (ci_of h0 h1), rest_some (ci_of (by omega) (by omega)), Int.emod_emod_of_dvd _ (Int.dvd_refl 64)]
theorem sin_mod {x : Int} (h0 : -9223372036854775808 ≤ x) (h1 : x ≤ 9223372036854775807) : circle_Sin.f x = circle_Sin.f (x % 64) := by
  unfold circle_Sin.f
  rw [rest_mod h0 h1]
theorem awake_true : earshotlaw04_awake.f = some true := by decide +kernel
theorem unit_all : ∀ r : Fin 64, earshotlaw04_CircleUnit.f ((r.1 : Nat) : Int) = some true := by decide +kernel
theorem CircleUnit : earshotlaw04_CircleUnit.Pure := by
  intro x hx
  obtain ⟨h0, h1⟩ := wf_range hx
  have e : earshotlaw04_CircleUnit.f x = earshotlaw04_CircleUnit.f (x % 64) := by
    unfold earshotlaw04_CircleUnit.f
    rw [cos_mod h0 h1, sin_mod h0 h1, rest_mod h0 h1]
  have m0 := Int.emod_nonneg x (show (64 : Int) ≠ 0 by decide)
  have m1 := Int.emod_lt_of_pos x (show (0 : Int) < 64 by decide)
  obtain ⟨r, hr⟩ := Int.eq_ofNat_of_zero_le m0
  rw [e, hr]
  exact unit_all ⟨r, by omega⟩
end Go.Proofs.YtohmecfjpmapnaaDoor.Pure
