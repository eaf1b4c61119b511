/- The plain law of CircleWindow: what the functions compute answers as the statement says. No conditions beside the statement's own. -/
import Derived.Test.YtohmecfjpmapnaaDoorPCircleWindowx
namespace Go.Proofs.YtohmecfjpmapnaaDoor.Pure
open Go.RowKit Go.Proofs.YtohmecfjpmapnaaDoor.PCircleWindow
theorem CircleWindow : earshotlaw04_CircleWindow.Pure := by
  unfold earshotlaw04_CircleWindow.Pure
  intros; first | rfl | exact ⟨0, rfl⟩
end Go.Proofs.YtohmecfjpmapnaaDoor.Pure
