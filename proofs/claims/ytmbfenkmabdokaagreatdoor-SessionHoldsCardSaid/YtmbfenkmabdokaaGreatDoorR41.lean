/- Parts of the proof: HoldsL. -/
import Derived.Test.YtmbfenkmabdokaaGreatDoorCards
import Derived.Test.YtmbfenkmabdokaaGreatDoorR28
import Derived.Test.YtmbfenkmabdokaaGreatDoorR40
set_option linter.all false
namespace Go.Proofs.YtmbfenkmabdokaaGreatDoor
open Go.ChangeShapes Go.WideShapes Go.ChangeAt Go.RowKit

set_option maxRecDepth 100000 in
theorem holds_lifted (os : Os) (started : os.Started) (H : Type) (enc : TypeId × Value → H) :
    ReturnsInHanded {} Tryz.checked os 4 .any (fun w args => (Rows.sessionHoldsSpec.pre enc Tryz.prog Tryz.f4 Rows.sessionHoldsRow.domain false w args ∧ laidMetH Tryz.prog laid3 w) ∧ sizedMet enc Tryz.prog Tryz.f4 (OpenSpec.ofChange Rows.sessionHoldsSpec) false w args)
      (Rows.sessionHoldsSpec.post enc Tryz.prog Tryz.f4 false true false false) := by
  refine returnsInHanded_of_change_and (C := Tryz.checked) (X := fun w _ => laidMetH Tryz.prog laid3 w) (fun _ _ _ hh h => h.of_heap hh) own_knob started (by kernel_rfl) Tryz.func4
    (ChangeSpec.witness_shaped (enc := enc) (C := Tryz.checked) (os := os) (X := fun w _ => laidMetH Tryz.prog laid3 w) false (World.laidAll Tryz.prog os laid3) #[.int .i64 0, .slice none 0 0, .slice none 0 0, .int .i64 0, .int .i64 0] 8 (World.laidAll_os _ _ _)
      (World.shaped_of_ZipB (by as_aux_lemma => kernel_rfl) (by as_aux_lemma => kernel_rfl)) (by as_aux_lemma => kernel_rfl) (by as_aux_lemma => kernel_rfl) (by as_aux_lemma => kernel_rfl)
      (by rw [MakeChecks.laidMetH_plain _ _ _ (by kernel_rfl)]; exact laidMet_laidAll _ (by as_aux_lemma => kernel_rfl) (by as_aux_lemma => kernel_rfl))) ?_
  intro W base args ds gs before hval0 hW _ _ hL _
  have hval : ∀ (j : Nat) t v, Tryz.f4.params[j]? = some t → args[j]? = some v → Value.okWide Tryz.prog W .any base t v := hval0
  have hW' := hW
  obtain ⟨p, q, hA0, hV, rfl, _, _⟩ := hW
  have hlt0 : ∀ x ∈ p ++ q, x.block < W.heap.size := fun x hx => hW'.lt x hx
  have hA : DataW.TrodAll enc Tryz.prog W 0 (fun _ => true) true Tryz.f4.params.toList args.toList ds p := hA0
  rw [Tryz.params4] at hA hval
  obtain ⟨v0, v1, v2, v3, v4, d0, d1, d2, d3, d4, p0, p1, p2, p3, p4, rfl, rfl, rfl, h0, h1, h2, h3, h4⟩ := trod_five hA
  obtain ⟨rfl, rfl⟩ := trodVars_none hV
  obtain ⟨x0, rfl, rfl, rfl, w0⟩ := open_int Tryz.underlying3 (hval 0 3 v0 rfl rfl) h0
  obtain ⟨a1, n1, c1, rfl⟩ := okWide_slice Tryz.underlying29 (hval 1 29 v1 rfl rfl)
  have k1 := ints_of h1
  obtain ⟨a2, n2, c2, rfl⟩ := okWide_slice Tryz.underlying29 (hval 2 29 v2 rfl rfl)
  have k2 := ints_of h2
  obtain ⟨x3, rfl, rfl, rfl, w3⟩ := open_int Tryz.underlying3 (hval 3 3 v3 rfl rfl) h3
  obtain ⟨x4, rfl, rfl, rfl, w4⟩ := open_int Tryz.underlying3 (hval 4 3 v4 rfl rfl) h4
  have hcall := Holds_ok W x0 a1 n1 c1 a2 n2 c2 x3 x4 (env_of_laid hL)  k1.1 k1.2 k2.1 k2.2  
  refine Calls.mono hcall ?_
  rintro e W' ⟨he, hb⟩
  subst he
  refine ⟨_, rfl, _, _, _, [], (([] : List MemPlace) ++ (p1 ++ (p2 ++ (([] : List MemPlace) ++ ([] : List MemPlace))))), [], hW', ?_, ?_, ?_, kept_of_below hb, fun h => by cases h⟩
  · exact trodAll_mk1 (shut_bool Tryz.underlying4 true)
  · exact trod_mk5 (shut_int Tryz.underlying3 w0) (ints_below h1 hb (fun x hx => hlt0 x (by simp [hx]))) (ints_below h2 hb (fun x hx => hlt0 x (by simp [hx]))) (shut_int Tryz.underlying3 w3) (shut_int Tryz.underlying3 w4)
  · rfl

end Go.Proofs.YtmbfenkmabdokaaGreatDoor
