/- Parts of the proof: Door. -/
import Derived.Test.YtmbfenkmabdokaaGreatDoorTie
import Derived.Lib.LaidTab
import Derived.ProofKit
import Derived.OpenShut
import Derived.LaidMore
import Derived.Lay
import Derived.SevenTiedAt
import Derived.Stop.LaidErr
import Derived.Stop.Joined
import Derived.Test.YtmbfenkmabdokaaGreatDoorR00
set_option linter.all false
namespace Go.Proofs.YtmbfenkmabdokaaGreatDoor
open Go.ChangeShapes Go.WideShapes Go.ChangeAt Go.RowKit

theorem own_knob : ownKnob Tryz.prog.godebug = none := by kernel_rfl
abbrev laid3 : List (String × DataW Unit) := [("unicode/utf8.acceptRanges", Rows.laid_unicode_utf8_acceptRanges), ("blotter/sum.nibbles", Rows.laid_blotter_sum_nibbles), ("unicode/utf8.first", Rows.laid_unicode_utf8_first)]
theorem env_of_laid {W : World} (h : laidMetH Tryz.prog laid3 W) : EnvN W := by
  rw [MakeChecks.laidMetH_plain _ _ _ (by kernel_rfl)] at h
  have hL := laidMet.tail h
  have gN : Tryz.prog.globalNamed "blotter/sum.nibbles" = some 3 := by kernel_rfl
  have hT := Lib.tabIs_of_head (k := .u32) (zs := nibL.map fun n : Nat => (n : Int)) (n := 16) gN (t := 381) (by kernel_rfl) Tryz.underlying381 Tryz.underlying279 (by kernel_rfl) (by kernel_rfl) hL
  intro i hi
  have := hT.cell gN i hi
  rw [this]
  congr 2
  unfold nib
  simp only [List.getD, List.getElem?_map]
  have : i < nibL.length := hi
  rw [List.getElem?_eq_getElem this]; rfl
theorem kept_of_below {w w' : World} {may : MemPlace → Prop} (h : Below w.heap.size w w') : w.keptBut w' may :=
  ⟨h.os, h.output, fun i hi => by rw [h.block i hi]; exact (World.keptBut_refl w may).2.2 i hi⟩
end Go.Proofs.YtmbfenkmabdokaaGreatDoor
