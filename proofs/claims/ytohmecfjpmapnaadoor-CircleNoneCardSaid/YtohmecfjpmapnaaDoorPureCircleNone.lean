/- The plain law of CircleNone: what the functions compute answers as the statement says. No conditions beside the statement's own. -/
import Derived.Test.YtohmecfjpmapnaaDoorPCircleNonex
namespace Go.Proofs.YtohmecfjpmapnaaDoor.Pure
open Go.RowKit Go.Proofs.YtohmecfjpmapnaaDoor.PCircleNone
theorem CircleNone : earshotlaw04_CircleNone.Pure := by
  unfold earshotlaw04_CircleNone.Pure
  intros
  first | rfl | exact ⟨0, rfl⟩
end Go.Proofs.YtohmecfjpmapnaaDoor.Pure
