/- SessionHolds returns true at every input: the tied card. (Printed by wip/mkcard.py.) -/
import Derived.Test.YtmbfenkmabdokaaGreatDoorCards
import Derived.Test.YtmbfenkmabdokaaGreatDoorR43
set_option linter.all false
namespace Go.Proofs.YtmbfenkmabdokaaGreatDoor
open Go.ChangeShapes Go.WideShapes Go.ChangeAt Go.RowKit

theorem holds_card_holds : Rows.SessionHoldsCardSaid :=
  Claim7.holds_tied_plain_at .later [] [.data, .data, .pinned] true _ true holds_holds (fun _ h => by cases h) (by as_aux_lemma => kernel_rfl) (fun _ h => by cases h) sessionHolds_row_tie rfl ⟨rfl, rfl⟩ (by as_aux_lemma => kernel_rfl) rfl
    (fun f fn hf hfn => by
      obtain rfl : f = 4 := Option.some.inj ((show Tryz.prog.funcNamed "blotter/blotterlaw19.SessionHolds" = some 4 by kernel_rfl).symm.trans hf) |>.symm
      obtain rfl : fn = Tryz.f4 := (Option.some.inj (Tryz.func4.symm.trans hfn)).symm
      exact ⟨by as_aux_lemma => kernel_rfl, fun j t ht => by
        rw [Tryz.params4] at ht
        have hm : t ∈ [3, 29, 29, 3, 3] := by simpa using Array.mem_of_getElem? ht
        have hall : ([3, 29, 29, 3, 3].all fun u => !Tryz.prog.wantsStandIn u) = true := by kernel_rfl
        have := List.all_eq_true.1 hall t hm
        exact (show Tryz.prog.wantsStandIn t = false by simpa using this)⟩)
    (by as_aux_lemma => kernel_rfl)
#print axioms holds_card_holds
end Go.Proofs.YtmbfenkmabdokaaGreatDoor
