/- Parts of the proof: HoldsF. -/
import Derived.Test.YtmbfenkmabdokaaGreatDoorR28
set_option linter.all false
namespace Go.Proofs.YtmbfenkmabdokaaGreatDoor
open Go.ChangeShapes Go.WideShapes Go.ChangeAt Go.RowKit

set_option maxRecDepth 100000 in
set_option maxHeartbeats 4000000 in
theorem holds_facts : joinedFacts Tryz.pinned.checked.prog 4 Tryz.f4 Rows.sessionHoldsSpec Rows.sessionHoldsRow = true := by
  unfold joinedFacts
  repeat' (with_reducible refine band ?_ ?_)
  all_goals as_aux_lemma => kernel_rfl
end Go.Proofs.YtmbfenkmabdokaaGreatDoor
