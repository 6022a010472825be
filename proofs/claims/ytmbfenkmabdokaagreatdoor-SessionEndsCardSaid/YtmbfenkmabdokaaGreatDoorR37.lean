/- Parts of the proof: EndsL. -/
import Derived.Test.YtmbfenkmabdokaaGreatDoorCards
import Derived.Test.YtmbfenkmabdokaaGreatDoorR28
import Derived.Test.YtmbfenkmabdokaaGreatDoorR36
set_option linter.all false
namespace Go.Proofs.YtmbfenkmabdokaaGreatDoor
open Go.ChangeShapes Go.WideShapes Go.ChangeAt Go.RowKit

set_option maxRecDepth 100000 in
theorem ends_lifted (os : Os) (started : os.Started) (H : Type) (enc : TypeId × Value → H) :
    ReturnsInHanded {} Tryz.checked os 5 .any (fun w args => (Rows.sessionEndsSpec.pre enc Tryz.prog Tryz.f5 Rows.sessionEndsRow.domain false w args ∧ laidMetH Tryz.prog laid3 w) ∧ sizedMet enc Tryz.prog Tryz.f5 (OpenSpec.ofChange Rows.sessionEndsSpec) false w args)
      (Rows.sessionEndsSpec.post enc Tryz.prog Tryz.f5 false true false false) := by
  refine returnsInHanded_of_change_and (C := Tryz.checked) (X := fun w _ => laidMetH Tryz.prog laid3 w) (fun _ _ _ hh h => h.of_heap hh) own_knob started (by kernel_rfl) Tryz.func5
    (ChangeSpec.witness_shaped (enc := enc) (C := Tryz.checked) (os := os) (X := fun w _ => laidMetH Tryz.prog laid3 w) false (World.laidAll Tryz.prog os laid3) #[.slice none 0 0, .int .i64 0, .int .i64 0] 8 (World.laidAll_os _ _ _)
      (World.shaped_of_ZipB (by as_aux_lemma => kernel_rfl) (by as_aux_lemma => kernel_rfl)) (by as_aux_lemma => kernel_rfl) (by as_aux_lemma => kernel_rfl) (by as_aux_lemma => kernel_rfl)
      (by rw [MakeChecks.laidMetH_plain _ _ _ (by kernel_rfl)]; exact laidMet_laidAll _ (by as_aux_lemma => kernel_rfl) (by as_aux_lemma => kernel_rfl))) ?_
  intro W base args ds gs before hval0 hW _ _ hL _
  have hval : ∀ (j : Nat) t v, Tryz.f5.params[j]? = some t → args[j]? = some v → Value.okWide Tryz.prog W .any base t v := hval0
  have hW' := hW
  obtain ⟨p, q, hA0, hV, rfl, _, _⟩ := hW
  have hlt0 : ∀ x ∈ p ++ q, x.block < W.heap.size := fun x hx => hW'.lt x hx
  have hA : DataW.TrodAll enc Tryz.prog W 0 (fun _ => true) true Tryz.f5.params.toList args.toList ds p := hA0
  rw [Tryz.params5] at hA hval
  obtain ⟨v0, v1, v2, d0, d1, d2, p0, p1, p2, rfl, rfl, rfl, h0, h1, h2⟩ := trodAll_three hA
  obtain ⟨rfl, rfl⟩ := trodVars_none hV
  obtain ⟨a0, n0, c0, rfl⟩ := okWide_slice Tryz.underlying29 (hval 0 29 v0 rfl rfl)
  have k0 := ints_of h0
  obtain ⟨x1, rfl, rfl, rfl, w1⟩ := open_int Tryz.underlying3 (hval 1 3 v1 rfl rfl) h1
  obtain ⟨x2, rfl, rfl, rfl, w2⟩ := open_int Tryz.underlying3 (hval 2 3 v2 rfl rfl) h2
  have hcall := Ends_ok W a0 n0 c0 x1 x2 (env_of_laid hL) k0.1 k0.2 (by have h := w1; simp [Lit.wf] at h; exact ⟨h.1, h.2⟩) (by have h := w2; simp [Lit.wf] at h; exact ⟨h.1, h.2⟩)
  refine Calls.mono hcall ?_
  rintro e W' ⟨he, hb⟩
  subst he
  refine ⟨_, rfl, _, _, _, [], (p0 ++ (([] : List MemPlace) ++ ([] : List MemPlace))), [], hW', ?_, ?_, ?_, kept_of_below hb, fun h => by cases h⟩
  · exact trodAll_mk1 (shut_bool Tryz.underlying4 true)
  · exact trodAll_mk3 (ints_below h0 hb (fun x hx => hlt0 x (by simp [hx]))) (shut_int Tryz.underlying3 w1) (shut_int Tryz.underlying3 w2)
  · rfl

end Go.Proofs.YtmbfenkmabdokaaGreatDoor
