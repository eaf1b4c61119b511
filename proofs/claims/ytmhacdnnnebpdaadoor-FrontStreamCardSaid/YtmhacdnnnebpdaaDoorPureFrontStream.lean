/- The plain law of FrontStream: what the functions compute answers as the statement says. No conditions beside the statement's own. -/
import Derived.Test.YtmhacdnnnebpdaaDoorPFrontStreamx
namespace Go.Proofs.YtmhacdnnnebpdaaDoor.Pure
open Go.RowKit Go.Proofs.YtmhacdnnnebpdaaDoor.PFrontStream
set_option linter.unusedVariables false
theorem wf_i64 {x : Int} (h : (Lit.int .i64 x).wf = true) : -9223372036854775808 ≤ x ∧ x ≤ 9223372036854775807 := by
  simp only [Lit.wf, Bool.and_eq_true, decide_eq_true_eq] at h
  exact h
theorem wf_u32 {x : Int} (h : (Lit.int .u32 x).wf = true) : 0 ≤ x ∧ x < 4294967296 := by
  simp only [Lit.wf, Bool.and_eq_true, decide_eq_true_eq] at h
  obtain ⟨h0, h1⟩ := h
  have h2 : x ≤ 4294967295 := h1
  exact ⟨h0, by omega⟩
theorem wf_u64 {x : Int} (h : (Lit.int .u64 x).wf = true) : 0 ≤ x ∧ x < 18446744073709551616 := by
  simp only [Lit.wf, Bool.and_eq_true, decide_eq_true_eq] at h
  obtain ⟨h0, h1⟩ := h
  have h2 : x ≤ 18446744073709551615 := h1
  exact ⟨h0, by omega⟩
theorem FrontStream : earshotlaw13_FrontStream.Pure := by
  unfold earshotlaw13_FrontStream.Pure
  intro _ _ _ _ _ l1 l2 _ _ _ _ h8 _ _ h9 _; unfold earshotlaw13_FrontStream.f; rw [if_pos]; simp only [Bool.and_eq_true, decide_eq_true_eq]; exact ⟨by omega, by omega⟩
end Go.Proofs.YtmhacdnnnebpdaaDoor.Pure
