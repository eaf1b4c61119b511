/- The plain law of CircleTells: what the functions compute answers as the statement says. No conditions beside the statement's own. -/
import Derived.Test.YtohmecfjpmapnaaDoorPCircleTellsx
namespace Go.Proofs.YtohmecfjpmapnaaDoor.Pure
open Go.RowKit Go.Proofs.YtohmecfjpmapnaaDoor.PCircleTells
theorem CircleTells : earshotlaw04_CircleTells.Pure := by
  unfold earshotlaw04_CircleTells.Pure
  intro a0 a1 h0 _; unfold earshotlaw04_CircleTells.f; rw [if_pos (by simp [Lit.wf, IntKind.wrap, IntKind.bits, IntKind.signed] at h0; simp [ci64b]; exact h0)]
end Go.Proofs.YtohmecfjpmapnaaDoor.Pure
