/- Parts of the proof: DoorL. -/
import Derived.Carry
import Derived.ChangeMaps5
import Derived.ChangeSlices
import Derived.Test.YtmbfenkmabdokaaGreatDoorR01
set_option linter.all false
namespace Go.Proofs.YtmbfenkmabdokaaGreatDoor
open Go.ChangeShapes Go.WideShapes Go.ChangeAt Go.RowKit

theorem band {a b : Bool} (ha : a = true) (hb : b = true) : (a && b) = true := by rw [ha, hb]; rfl
theorem laid_out : laidOutB Tryz.prog = true := by kernel_rfl
section
variable {H : Type} {enc : TypeId × Value → H} {W W' : World} {a : Option Addr} {n c : Nat} {d : DataW H} {p : List MemPlace}
theorem ints_of (h : DataW.Trod enc Tryz.prog W 0 (fun _ => true) true 29 (.slice a n c) d p) : (∀ j, j < n → ∃ ad z, a = some ad ∧ W.cell? (ad.add j) = some (.int .i64 z)) ∧ n ≤ maxLen := by
  obtain ⟨fuel, hf⟩ := h
  rcases open_ints Tryz.underlying29 Tryz.underlying3 (by kernel_rfl) hf with ⟨hcs, hx⟩ | ⟨ad, len', cap', zs, hcs, _, hl, hm, hz, hx, hcell, hwz⟩
  · simp [Value.cells] at hcs
    obtain ⟨rfl, rfl, rfl⟩ := hcs
    exact ⟨fun j hj => by omega, by omega⟩
  · simp [Value.cells] at hcs
    obtain ⟨rfl, rfl, rfl⟩ := hcs
    simp only [if_true] at hz
    exact ⟨fun j hj => ⟨ad, _, rfl, hcell j (by omega)⟩, by omega⟩
theorem ints_below {v : Value} (h : DataW.Trod enc Tryz.prog W 0 (fun _ => true) true 29 v d p) (hb : Below W.heap.size W W') (hlt : ∀ x ∈ p, x.block < W.heap.size) :
    DataW.Trod enc Tryz.prog W' 0 (fun b => decide (b < W.heap.size)) true 29 v d p :=
  Below.trod laid_out (by kernel_rfl) (of_decide_eq_true (by kernel_rfl)) h hb hlt
end
section
variable {H : Type} {enc : TypeId × Value → H} {P : Program} {w : World} {base : Nat} {spare : Nat → Bool} {held : Bool}
theorem trod_five {t t' t'' t3 t4 : TypeId} {args : Array Value} {ds : List (DataW H)} {ps : List MemPlace} (h : DataW.TrodAll enc P w base spare held [t, t', t'', t3, t4] args.toList ds ps) :
    ∃ v v' v'' v3 v4 d d' d'' d3 d4 p p' p'' p3 p4, args = #[v, v', v'', v3, v4] ∧ ds = [d, d', d'', d3, d4] ∧ ps = p ++ (p' ++ (p'' ++ (p3 ++ p4))) ∧
      DataW.Trod enc P w base spare held t v d p ∧ DataW.Trod enc P w base spare held t' v' d' p' ∧ DataW.Trod enc P w base spare held t'' v'' d'' p'' ∧ DataW.Trod enc P w base spare held t3 v3 d3 p3 ∧ DataW.Trod enc P w base spare held t4 v4 d4 p4 := by
  obtain ⟨v, vs, d, ds1, p, q, hargs, rfl, rfl, hd, h1⟩ := trodAll_cons h
  obtain ⟨v', vs', d', ds2, p', q', rfl, rfl, rfl, hd', h2⟩ := trodAll_cons h1
  obtain ⟨v'', vs'', d'', ds3, p'', q'', rfl, rfl, rfl, hd'', h3⟩ := trodAll_cons h2
  obtain ⟨v3, vs3, d3, ds4, p3, q3, rfl, rfl, rfl, hd3, h4⟩ := trodAll_cons h3
  obtain ⟨v4, vs4, d4, ds5, p4, q4, rfl, rfl, rfl, hd4, h5⟩ := trodAll_cons h4
  obtain ⟨rfl, rfl, rfl⟩ := trodAll_nil h5
  exact ⟨v, v', v'', v3, v4, d, d', d'', d3, d4, p, p', p'', p3, p4, by cases args; simp_all, rfl, by simp, hd, hd', hd'', hd3, hd4⟩
theorem trod_mk5 {t t' t'' t3 t4 : TypeId} {v v' v'' v3 v4 : Value} {d d' d'' d3 d4 : DataW H} {p p' p'' p3 p4 : List MemPlace} (h : DataW.Trod enc P w base spare held t v d p) (h' : DataW.Trod enc P w base spare held t' v' d' p')
    (h'' : DataW.Trod enc P w base spare held t'' v'' d'' p'') (h3 : DataW.Trod enc P w base spare held t3 v3 d3 p3) (h4 : DataW.Trod enc P w base spare held t4 v4 d4 p4) :
    DataW.TrodAll enc P w base spare held [t, t', t'', t3, t4] [v, v', v'', v3, v4] [d, d', d'', d3, d4] (p ++ (p' ++ (p'' ++ (p3 ++ p4)))) := ⟨p, _, h, trodAll_mk4 h' h'' h3 h4, rfl⟩
end
end Go.Proofs.YtmbfenkmabdokaaGreatDoor
