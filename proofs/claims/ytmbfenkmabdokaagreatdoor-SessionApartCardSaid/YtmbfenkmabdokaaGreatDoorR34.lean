/- Parts of the proof: ApartF. -/
import Derived.Test.YtmbfenkmabdokaaGreatDoorR28
set_option linter.all false
namespace Go.Proofs.YtmbfenkmabdokaaGreatDoor
open Go.ChangeShapes Go.WideShapes Go.ChangeAt Go.RowKit

set_option maxRecDepth 100000 in
set_option maxHeartbeats 4000000 in
theorem apart_facts : joinedFacts Tryz.pinned.checked.prog 6 Tryz.f6 Rows.sessionApartSpec Rows.sessionApartRow = true := by
  unfold joinedFacts
  repeat' (with_reducible refine band ?_ ?_)
  all_goals as_aux_lemma => kernel_rfl
end Go.Proofs.YtmbfenkmabdokaaGreatDoor
