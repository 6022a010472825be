/- Parts of the proof: Range, Keys, Flush, Freeze, Wal, WalOpen. -/
import Derived.RangeFuncNested
import Derived.RangeFuncBound
import Derived.RangeFuncCalls
import Derived.RangeFuncLeaves
import Derived.RangeFuncFrom
import Derived.Shelf.Abstract
import Derived.Shelf.RegionOpen
import Derived.WalkKit
import Derived.OwnWalkIn
import Derived.TacticsInMore
import Derived.LoopNIn
import Derived.LoopIn
import Derived.Test.YtmbfenkmabdokaaGreatDoorR05
import Derived.Test.YtmbfenkmabdokaaGreatDoorR02
set_option linter.all false
namespace Go
open Go.RowKit
variable {F : Fence} {n : Nat} {P : Program}

/-- what a round's end owes -/
def myPost (I : World → Prop) (Ix : Code → World → Prop) (W : World) : Exit → Act → World → Prop
  | .normal, _, W' => KeepsOthers W W' ∧ I W'
  | .ret, _, W' => KeepsOthers W W' ∧ Ix .ret W'
  | .exit id, _, W' => KeepsOthers W W' ∧ Ix (.exit id) W'
  | .goto t, _, W' => KeepsOthers W W' ∧ Ix (.goto t) W'
  | _, _, _ => False

/-- closed under the statement's own book-keeping, from B on -/
structure RoundShut (B : Nat) (J : World → Prop) : Prop where
  alloc : ∀ W o, J W → J (W.alloc o)
  put : ∀ W r o ob, J W → B ≤ r → W.heap[r]? = some ob → ob.isCells = false → J (W.putObj r o)

theorem wpIn_rangeFunc_my {α : Type} {g : Operand} {ps : Array Tmp} {assign body : Code} {Q : Exit → Act → World → Prop} {a : Act} {w : World}
    (hro : F.round = none) (h1 : 1 ≤ n) {gf : Nat} {lb : Array Value} (hg : a.eval g = .func (.func gf) #[] lb) (hFg : F.fn gf) (eg : ∀ args w, (callFunc gf args).run P w = .ok (.enter gf args) w)
    (encs : α → Array Value) (I : World → Prop) (A : α → World → Prop) (Ix : Code → World → Prop) (hI : RoundShut w.heap.size I) (hA : ∀ x, RoundShut w.heap.size (A x)) (hIx : ∀ c, RoundShut w.heap.size (Ix c)) (h0 : I w) (a₁ : α → Act)
    (hps : ∀ x W, A x W → (encs x).size = ps.size)
    (hassign : ∀ (l : Nat) (x : α) (W : World) (K : Act → World → Prop), A x W → K (a₁ x) W →
      assign.wpIn (F.inRound l) (n - 1 - 1) P (Exit.then K (fun _ _ _ => False)) { tmps := (ps.zip (encs x)).foldl (fun t (p, v) => t.setIfInBounds p v) a.tmps, defers := [] } W)
    (hbody : ∀ (l : Nat) (x : α) (W : World), A x W → body.wpIn (F.inRound l) (n - 1 - 1) P (myPost I Ix W) (a₁ x) W)
    (hit : ∀ (l : Nat) (RD : World → Prop) (DN : Code → World → Prop), (∀ W W', RD W → Below W.heap.size W W' → RD W') → (∀ c W W', DN c W → Below W.heap.size W W' → DN c W') →
      (∀ x W, RD W → A x W → YieldAt F (n - 1 - 1) P l (encs x) W fun e W' => (e = .returned (.bool true) ∧ RD W' ∧ I W') ∨ (e = .returned (.bool false) ∧ ∃ c, DN c W' ∧ Ix c W')) →
      ∀ W, RD W → I W → CallsIn F (n - 1) P gf (#[.func (.yield l) #[] #[]] ++ lb) W fun e W' => (∃ v, e = .returned v) ∧ ((RD W' ∧ I W') ∨ ∃ c, DN c W' ∧ Ix c W'))
    (hdone : ∀ (W : World), I W → W.heap[w.heap.size]? = some (.deferred (some [])) → Q .normal { a with defers := { target := .collected w.heap.size, args := #[] } :: a.defers } W)
    (hstop : ∀ (c : Code) (W : World), Ix c W → W.heap[w.heap.size]? = some (.deferred (some [])) → c.wpIn F n P Q { a with defers := { target := .collected w.heap.size, args := #[] } :: a.defers } W) :
    (Code.rangeFunc g ps assign body).wpIn F n P Q a w := by
  refine wpIn_rangeFunc ?_
  intro fn hfn
  rw [hro]
  obtain ⟨rec, hrec⟩ : ∃ rec : LoopState → Option Code → Loop, rec = fun st pe => { state := st, pending := pe, fn, tmps := a.tmps, params := ps, assign, body, defers := w.heap.size } := ⟨_, rfl⟩
  obtain ⟨W1, hW1⟩ : ∃ W1, (w.alloc (.deferred (some []))).alloc (.loop (rec .ready none)) = W1 := ⟨_, rfl⟩
  have hL1 : W1.heap[w.heap.size + 1]? = some (.loop (rec .ready none)) := by
    rw [← hW1]; have := World.alloc_heap_new (w.alloc (.deferred (some []))) (.loop (rec .ready none)); rwa [World.size_alloc] at this
  have hK1 : W1.heap[w.heap.size]? = some (.deferred (some [])) := by
    rw [← hW1]; exact (Below.heap_alloc _ _ _ (by simp)).trans (World.alloc_heap_new w _)
  have hI1 : I W1 := by rw [← hW1]; exact hI.alloc _ _ (hI.alloc _ _ h0)
  refine ⟨w.heap.size + 1, [{ target := .collected w.heap.size, args := #[] }], W1, { target := .fn (.func gf) lb, args := #[.func (.yield (w.heap.size + 1)) #[] #[]] }, W1, gf,
    #[.func (.yield (w.heap.size + 1)) #[] #[]] ++ lb, W1, ?_, ?_, ?_, ?_, fun _ => h1, ?_⟩
  · rw [← hW1, hrec]; exact run_enterLoop_outer _ _ _ _ _
  · simp only [resolve, hg]
    simp [go_sem]
  · intro f' hf'; simp [Target.leads] at hf'; subst hf'; exact hFg
  · simp [invoke, go_sem, eg]
  · refine (hit (w.heap.size + 1)
      (fun W => W.heap[w.heap.size + 1]? = some (.loop (rec .ready none)) ∧ W.heap[w.heap.size]? = some (.deferred (some [])))
      (fun c W => W.heap[w.heap.size + 1]? = some (.loop (rec .done (some c))) ∧ W.heap[w.heap.size]? = some (.deferred (some [])))
      (fun W W' h k => ⟨(k.block _ (Array.getElem?_eq_some_iff.1 h.1).1).trans h.1, (k.block _ (Array.getElem?_eq_some_iff.1 h.2).1).trans h.2⟩)
      (fun c W W' h k => ⟨(k.block _ (Array.getElem?_eq_some_iff.1 h.1).1).trans h.1, (k.block _ (Array.getElem?_eq_some_iff.1 h.2).1).trans h.2⟩)
      ?_ W1 ⟨hL1, hK1⟩ hI1).mono ?_
    · rintro x W ⟨hl, hk⟩ hx
      have hlt : w.heap.size + 1 < W.heap.size := (Array.getElem?_eq_some_iff.1 hl).1
      have hy := run_yield (P := P) (args := encs x) hl (by rw [hrec]; exact hps x W hx)
      rw [hrec] at hy
      refine ⟨fn, _, assign, body, hy, roundIn_of_wpIn hfn (hassign _ x W _ hx ⟨_, run_beginRound hl (by rw [hrec]), ?_⟩)⟩
      have hl2 : (W.putObj (w.heap.size + 1) (.loop { rec .ready none with state := .busy })).heap[w.heap.size + 1]? = some (.loop { rec .ready none with state := .busy }) := World.putObj_heap_same hlt
      have hk2 : (W.putObj (w.heap.size + 1) (.loop { rec .ready none with state := .busy })).heap[w.heap.size]? = some (.deferred (some [])) := (World.putObj_heap_other (by omega)).trans hk
      refine wpIn_mono (hbody _ x _ ((hA x).put _ _ _ _ hx (by omega) hl rfl)) ?_
      have fin : ∀ (jump : Option Code) (W3 : World), KeepsOthers (W.putObj (w.heap.size + 1) (.loop { rec .ready none with state := .busy })) W3 →
          (Instr.endRound (w.heap.size + 1) jump).run P W3 = .ok (.bool jump.isNone) (W3.putObj (w.heap.size + 1) (.loop (rec (if jump.isNone then .ready else .done) jump))) ∧
          W3.heap[w.heap.size + 1]? = some (.loop { rec .ready none with state := .busy }) ∧
          (W3.putObj (w.heap.size + 1) (.loop (rec (if jump.isNone then .ready else .done) jump))).heap[w.heap.size + 1]? = some (.loop (rec (if jump.isNone then .ready else .done) jump)) ∧
          (W3.putObj (w.heap.size + 1) (.loop (rec (if jump.isNone then .ready else .done) jump))).heap[w.heap.size]? = some (.deferred (some [])) := fun jump W3 hk3 => by
        have hl3 := hk3.same _ _ hl2 rfl
        have := run_endRound (P := P) jump hl3
        rw [hrec] at this ⊢
        exact ⟨this, by rw [hrec] at hl3; exact hl3, World.putObj_heap_same (Array.getElem?_eq_some_iff.1 hl3).1, (World.putObj_heap_other (by omega)).trans (hk3.same _ _ hk2 rfl)⟩
      rintro e a3 W3 hp
      cases e with
      | normal =>
        obtain ⟨hk3, hi3⟩ := hp
        obtain ⟨hr, hl3, hl4, hk4⟩ := fin none W3 hk3
        exact ⟨_, _, hr, .inl ⟨rfl, ⟨hl4, hk4⟩, hI.put _ _ _ _ hi3 (by omega) hl3 rfl⟩⟩
      | ret =>
        obtain ⟨hk3, hi3⟩ := hp
        obtain ⟨hr, hl3, hl4, hk4⟩ := fin (some .ret) W3 hk3
        exact ⟨_, _, hr, .inr ⟨rfl, .ret, ⟨hl4, hk4⟩, (hIx _).put _ _ _ _ hi3 (by omega) hl3 rfl⟩⟩
      | exit id =>
        obtain ⟨hk3, hi3⟩ := hp
        obtain ⟨hr, hl3, hl4, hk4⟩ := fin (some (.exit id)) W3 hk3
        exact ⟨_, _, hr, .inr ⟨rfl, .exit id, ⟨hl4, hk4⟩, (hIx _).put _ _ _ _ hi3 (by omega) hl3 rfl⟩⟩
      | goto t =>
        obtain ⟨hk3, hi3⟩ := hp
        obtain ⟨hr, hl3, hl4, hk4⟩ := fin (some (.goto t)) W3 hk3
        exact ⟨_, _, hr, .inr ⟨rfl, .goto t, ⟨hl4, hk4⟩, (hIx _).put _ _ _ _ hi3 (by omega) hl3 rfl⟩⟩
      | panic ch => exact hp.elim
      | outgrown => exact hp.elim
    · rintro e W2 ⟨⟨v, rfl⟩, (⟨⟨hl, hk⟩, hi⟩ | ⟨c, ⟨hl, hk⟩, hi⟩)⟩
      · exact ⟨none, _, by have := run_endLoop (P := P) hl (by rw [hrec]; simp); rw [hrec] at this; exact this, hdone _ (hI.put _ _ _ _ hi (by omega) hl rfl) ((World.putObj_heap_other (by omega)).trans hk)⟩
      · exact ⟨some c, _, by have := run_endLoop (P := P) hl (by rw [hrec]; simp); rw [hrec] at this; exact this, hstop c _ ((hIx c).put _ _ _ _ hi (by omega) hl rfl) ((World.putObj_heap_other (by omega)).trans hk)⟩
end Go

namespace Go.Proofs.YtmbfenkmabdokaaGreatDoor
open Go.RowKit Go.Mp Go.Shelf
attribute [local go_sem] Oper.semAt_some

theorem shut_pure (B : Nat) (p : Prop) : RoundShut B (fun _ => p) := ⟨fun _ _ h => h, fun _ _ _ _ h _ _ _ => h⟩
theorem shut_below {w : World} {B : Nat} (h : w.heap.size ≤ B) : RoundShut B (fun W => Below w.heap.size w W) :=
  ⟨fun W o hW => hW.alloc hW.size o, fun W r o ob hW hr hob _ => hW.grown (grownBy_putObj' W r o) hW.size (fun k hk => by cases hk; omega)⟩
theorem _root_.Go.RoundShut.and {B : Nat} {I J : World → Prop} (h : RoundShut B I) (k : RoundShut B J) : RoundShut B (fun W => I W ∧ J W) :=
  ⟨fun W o hW => ⟨h.alloc W o hW.1, k.alloc W o hW.2⟩, fun W r o ob hW hr hob hc => ⟨h.put W r o ob hW.1 hr hob hc, k.put W r o ob hW.2 hr hob hc⟩⟩
theorem shut_boxed (B b : Nat) (t : TypeId) (v : Value) : RoundShut B (fun W => Boxed W b t v) :=
  ⟨fun W o h => h.alloc o, fun W r o ob h _ hob hc => h.kept (grownBy_putObj' W r o) (by rintro e; cases e; unfold Boxed at h; rw [h] at hob; cases hob; simp [Obj.isCells] at hc)⟩

set_option maxRecDepth 100000 in
set_option maxHeartbeats 1000000 in
theorem AppendSeq_none (w : World) (K : Nat) (lb : Array Value) (eg : ∀ args w, (callFunc K args).run Tryz.prog w = .ok (.enter K args) w)
    (hit : ∀ y W, Below w.heap.size w W → Calls Tryz.prog K (#[y] ++ lb) W fun e W' => (∃ v, e = .returned v) ∧ Below W.heap.size W W') :
    Calls Tryz.prog 261 #[.slice none 0 0, .func (.func K) #[] lb] w fun e w' => e = .returned (.slice none 0 0) ∧ Below w.heap.size w w' := by
  refine (callsIn_wide (n := 5)).1 ?_
  refine callsIn_of_wp_marks Tryz.func261 rfl trivial ?_
  simp only [Tryz.ntmps261, List.size_toArray, List.length_cons, List.length_nil, Nat.reduceAdd, Nat.reduceSub, Array.replicate_succ, Array.replicate_zero, List.push_toArray, List.append_toArray, List.nil_append, List.cons_append]
  gi_wp2
  have hb0 : Below w.heap.size w (w.alloc (.cells #[.slice none 0 0] 29)) := (Below.refl _ _).alloc (Nat.le_refl _) _
  refine wpIn_rangeFunc_my (α := Unit) rfl (by omega) (gf := K) (lb := lb) rfl trivial eg (fun _ => #[])
    (fun W => Below w.heap.size w W ∧ Boxed W w.heap.size 29 (.slice none 0 0)) (fun _ _ => False) (fun _ _ => False)
    ((shut_below (by simp)).and (shut_boxed _ _ _ _)) (fun _ => shut_pure _ _) (fun _ => shut_pure _ _) ⟨hb0, Boxed.new _ _ _⟩ (fun _ => { tmps := #[], defers := [] }) (fun _ _ h => h.elim) (fun _ _ _ _ h => h.elim) (fun _ _ _ h => h.elim) ?it ?done (fun _ _ h => h.elim)
  case it =>
    intro l RD DN hRD hDN _ W hr hI
    refine (callsIn_wide.2 (hit _ W hI.1)).mono ?_
    rintro e W' ⟨hv, hb⟩
    exact ⟨hv, .inl ⟨hRD _ _ hr hb, hI.1.trans (hb.mono hI.1.size), by unfold Boxed; rw [hb.block _ (hI.2.lt)]; exact hI.2⟩⟩
  case done =>
    rintro W ⟨hb, hx⟩ hK
    have hc := hx.cell
    have hl := hx.lt
    clear hx
    have HB := Lib.hid hb
    clear hb
    gi_wp2
    refine ⟨by simp, .inl ⟨_, _, rfl, run_takeDeferred hK, ?_⟩⟩
    refine ⟨_, results_tmp rfl _ _ _, rfl, ?_⟩
    exact (shut_below (w := w) (B := w.heap.size + 1) (by omega)).put _ _ _ _ HB.out (by simp) hK rfl

theorem Sorted_none (w : World) (K : Nat) (lb : Array Value) (eg : ∀ args w, (callFunc K args).run Tryz.prog w = .ok (.enter K args) w)
    (hit : ∀ y W, Below w.heap.size w W → Calls Tryz.prog K (#[y] ++ lb) W fun e W' => (∃ v, e = .returned v) ∧ Below W.heap.size W W') :
    Calls Tryz.prog 158 #[.func (.func K) #[] lb] w fun e w' => e = .returned (.slice none 0 0) ∧ Below w.heap.size w w' := by
  have c1 := AppendSeq_none w K lb eg hit
  have c2 : Calls Tryz.prog 209 #[.func (.func K) #[] lb] w fun e w' => e = .returned (.slice none 0 0) ∧ Below w.heap.size w w' := by
    go_enter Tryz.func209, Tryz.ntmps209
    go_wp2_with first | (go_at_call 261; refine c1.mono ?_; rintro e w2 ⟨rfl, hb2⟩) | fail
    go_ret
    exact ⟨rfl, hb2⟩
  go_enter Tryz.func158, Tryz.ntmps158
  go_wp2_with first | (go_at_call 209; refine c2.mono ?_; rintro e w2 ⟨rfl, hb2⟩) | (go_at_call 187; refine (SortInts_nil _).mono ?_; rintro e w3 ⟨rfl, rfl⟩) | fail
  go_ret
  exact ⟨rfl, hb2⟩
end Go.Proofs.YtmbfenkmabdokaaGreatDoor

namespace Go.Proofs.YtmbfenkmabdokaaGreatDoor
open Go.RowKit Go.Mp

theorem range_none (W : World) (m : Nat) (T tk te : TypeId) (hT : Tryz.prog.underlying T = some (.map tk te)) (hm : Mp.Is W m ([] : List (Int × Value))) :
    ∃ W2, (Instr.range T (.map (some m))).run Tryz.prog W = .ok (.pointer (some ⟨W.heap.size, 0, none⟩)) W2 ∧ (∀ t, (Instr.next (.pointer (some ⟨W.heap.size, 0, none⟩)) false t).run Tryz.prog W2 = .ok (.tuple #[.bool false]) W2) ∧ Below W.heap.size W W2 := by
  obtain ⟨es, ck, hAt⟩ := hm
  have h0 : es.toList = [] := by have := hAt.rep; unfold Rep at this; simpa using this
  obtain ⟨hr1, hr2⟩ := run_range (P := Tryz.prog) T tk te hT hAt
  rw [h0] at hr2
  exact ⟨_, hr1, fun t => run_next_done (P := Tryz.prog) hr2 t, (Below.refl _ _).alloc (Nat.le_refl _) _⟩

theorem KeysA1 (W : World) (bx m : Nat) (y : Value) (hbx : W.cell? ⟨bx, 0, none⟩ = some (.map (some m))) (hm : Mp.Is W m ([] : List (Int × Value))) :
    Calls Tryz.prog 210 #[y, .pointer (some ⟨bx, 0, none⟩)] W fun e W' => (∃ v, e = .returned v) ∧ Below W.heap.size W W' := by
  obtain ⟨W2, h1, h2, h3⟩ := range_none W m 126 3 26 Tryz.underlying126 hm
  have hz := lt_of_cell hbx
  go_enter Tryz.func210, Tryz.ntmps210
  go_wp2
  go_loopw [] (fun wr => wr = W2) (fun _ => 0)
  case atStart => exact rfl
  case round =>
    obtain rfl := hrel
    go_wp2
    go_end0
    exact ⟨⟨_, rfl⟩, h3⟩
theorem KeysB1 (W : World) (bx m : Nat) (y : Value) (hbx : W.cell? ⟨bx, 0, none⟩ = some (.map (some m))) (hm : Mp.Is W m ([] : List (Int × Value))) :
    Calls Tryz.prog 211 #[y, .pointer (some ⟨bx, 0, none⟩)] W fun e W' => (∃ v, e = .returned v) ∧ Below W.heap.size W W' := by
  obtain ⟨W2, h1, h2, h3⟩ := range_none W m 240 3 4 Tryz.underlying240 hm
  have hz := lt_of_cell hbx
  go_enter Tryz.func211, Tryz.ntmps211
  go_wp2
  go_loopw [] (fun wr => wr = W2) (fun _ => 0)
  case atStart => exact rfl
  case round =>
    obtain rfl := hrel
    go_wp2
    go_end0
    exact ⟨⟨_, rfl⟩, h3⟩

theorem SortedKeysA (w : World) (m : Nat) (hm : Mp.Is w m ([] : List (Int × Value))) :
    ∃ W1, Calls Tryz.prog 159 #[.map (some m)] w (fun e w' => e = .returned (.func (.func 210) #[] #[.pointer (some ⟨w.heap.size, 0, none⟩)]) ∧ w' = W1) ∧ Below w.heap.size w W1 ∧
      Calls Tryz.prog 158 #[.func (.func 210) #[] #[.pointer (some ⟨w.heap.size, 0, none⟩)]] W1 (fun e w' => e = .returned (.slice none 0 0) ∧ Below W1.heap.size W1 w') := by
  refine ⟨w.alloc (.cells #[.map (some m)] 126), ?_, (Below.refl _ _).alloc (Nat.le_refl _) _, ?_⟩
  · go_enter Tryz.func159, Tryz.ntmps159
    go_wp2
    go_ret
    exact ⟨rfl, rfl⟩
  · refine Sorted_none _ _ _ (enters_of Tryz.func210 (by kernel_rfl) rfl) (fun y W hW => ?_)
    obtain ⟨es, ck, hb⟩ := is_heap hm
    refine KeysA1 W w.heap.size m y ?_ (hm.keep ((hW.block m (by have := lt_of_heap hb; simp; omega)).trans (Below.heap_alloc w _ m (lt_of_heap hb))))
    rw [hW.cell (p := ⟨w.heap.size, 0, none⟩) (by simp)]
    exact World.cell?_alloc_at _ _ _ _ rfl

theorem SortedKeysB (w : World) (m : Nat) (hm : Mp.Is w m ([] : List (Int × Value))) :
    ∃ W1, Calls Tryz.prog 161 #[.map (some m)] w (fun e w' => e = .returned (.func (.func 211) #[] #[.pointer (some ⟨w.heap.size, 0, none⟩)]) ∧ w' = W1) ∧ Below w.heap.size w W1 ∧
      Calls Tryz.prog 158 #[.func (.func 211) #[] #[.pointer (some ⟨w.heap.size, 0, none⟩)]] W1 (fun e w' => e = .returned (.slice none 0 0) ∧ Below W1.heap.size W1 w') := by
  refine ⟨w.alloc (.cells #[.map (some m)] 240), ?_, (Below.refl _ _).alloc (Nat.le_refl _) _, ?_⟩
  · go_enter Tryz.func161, Tryz.ntmps161
    go_wp2
    go_ret
    exact ⟨rfl, rfl⟩
  · refine Sorted_none _ _ _ (enters_of Tryz.func211 (by kernel_rfl) rfl) (fun y W hW => ?_)
    obtain ⟨es, ck, hb⟩ := is_heap hm
    refine KeysB1 W w.heap.size m y ?_ (hm.keep ((hW.block m (by have := lt_of_heap hb; simp; omega)).trans (Below.heap_alloc w _ m (lt_of_heap hb))))
    rw [hW.cell (p := ⟨w.heap.size, 0, none⟩) (by simp)]
    exact World.cell?_alloc_at _ _ _ _ rfl

set_option maxRecDepth 100000 in
theorem Flush_none (w : World) (p d from_ many N : Nat) (h : PoolAt w p d from_ many N) :
    Calls Tryz.prog 114 #[.pointer (some ⟨p, 0, none⟩)] w fun e w' => e = .returned .nilIface ∧ Below w.heap.size w w' := by
  obtain ⟨tm, fm, lm, hp, ht, hf, hl, _⟩ := h
  obtain ⟨W1, k1, k2, k3⟩ := SortedKeysA w tm ht
  have c5 : w.cell? ⟨p, 5, none⟩ = some (.map (some tm)) := by rw [World.cell?]; simp only [hp]; rfl
  have hz := lt_of_heap hp
  go_enter Tryz.func114, Tryz.ntmps114
  go_wp2_with first | (go_at_call 159; refine k1.mono ?_; rintro e w2 ⟨rfl, rfl⟩) | (go_at_call 158; refine k3.mono ?_; rintro e w3 ⟨rfl, hb3⟩) | fail
  go_loopw [13] (fun i wr => i = .int .i64 0 ∧ wr = w3) (fun _ _ => 0)
  case atStart => exact ⟨rfl, rfl⟩
  case round =>
    obtain ⟨rfl, rfl⟩ := hrel
    have HB := Lib.hid (k2.trans (hb3.mono k2.size))
    clear hb3 k2
    go_wp2
    go_ret
    exact ⟨rfl, HB.out⟩
end Go.Proofs.YtmbfenkmabdokaaGreatDoor

namespace Go.Proofs.YtmbfenkmabdokaaGreatDoor
open Go.RowKit Go.Mp

/-- what Freeze may turn: maps from N on -/
def FZ (N : Nat) (w : World) (b : Nat) : Prop := N ≤ b ∧ ∃ es ck, w.heap[b]? = some (.map es ck)

set_option maxRecDepth 100000 in
theorem Freeze_none (w : World) (p d from_ many N : Nat) (h : PoolAt w p d from_ many N) :
    Calls Tryz.prog 117 #[.pointer (some ⟨p, 0, none⟩)] w fun e w' => e = .returned (.tuple #[]) ∧ PoolAt w' p d from_ many N ∧ Kp (FZ N w) w w' := by
  obtain ⟨tm, fm, lm, hp, ht, hf, hl, n0, n1, n2, n3, ne⟩ := h
  obtain ⟨W2, r1, r2, r3⟩ := range_none w tm 126 3 26 Tryz.underlying126 ht
  obtain ⟨e1, k1, b1⟩ := is_heap ht
  obtain ⟨e2, k2, b2⟩ := is_heap hl
  obtain ⟨e3, k3, b3⟩ := is_heap hf
  have hl2 : Mp.Is W2 lm ([] : List (Int × Value)) := hl.keep (r3.block _ (lt_of_heap b2))
  obtain ⟨W3, q1, q2, q3⟩ := SortedKeysB W2 lm hl2
  have hz := lt_of_heap hp
  have c5 : w.cell? ⟨p, 5, none⟩ = some (.map (some tm)) := by rw [World.cell?]; simp only [hp]; rfl
  have hz2 : p < W2.heap.size := Nat.lt_of_lt_of_le hz r3.size
  have d7 : W2.cell? ⟨p, 7, none⟩ = some (.map (some lm)) := by
    rw [r3.cell (p := ⟨p, 7, none⟩) hz, World.cell?]; simp only [hp]; rfl
  go_enter Tryz.func117, Tryz.ntmps117
  go_wp2
  go_loopw [] (fun wr => wr = W2) (fun _ => 0)
  case atStart => exact rfl
  case round =>
    obtain rfl := hrel
    go_wp2_with first | (go_at_call 161; refine q1.mono ?_; rintro e w2 ⟨rfl, rfl⟩) | (go_at_call 158; refine q3.mono ?_; rintro e w3 ⟨rfl, hb3⟩) | fail
    go_loopw [26] (fun i wr => i = .int .i64 0 ∧ wr = w3) (fun _ _ => 0)
    case atStart => exact ⟨rfl, rfl⟩
    case round =>
      obtain ⟨rfl, rfl⟩ := hrel
      have hB : Below w.heap.size w wr := r3.trans ((q2.trans (hb3.mono q2.size)).mono r3.size)
      have g5 : wr.cell? ⟨p, 5, none⟩ = some (.map (some tm)) := by rw [hB.cell (p := ⟨p, 5, none⟩) hz]; exact c5
      have ht' : Mp.Is wr tm ([] : List (Int × Value)) := ht.keep (hB.block _ (lt_of_heap b1))
      have hl' : Mp.Is wr lm ([] : List (Int × Value)) := hl.keep (hB.block _ (lt_of_heap b2))
      have hp' : wr.heap[p]? = _ := (hB.block _ hz).trans hp
      obtain ⟨o1, u1, i1⟩ := run_clear (P := Tryz.prog) 126 3 26 0 Tryz.underlying126 ht'
      have pne : p ≠ tm := by rintro rfl; rw [hp] at b1; cases b1
      have pne2 : p ≠ lm := by rintro rfl; rw [hp] at b2; cases b2
      have fne : fm ≠ tm ∨ fm = tm := by omega
      have t1 := put_grown wr tm o1
      have w1h : ∀ k, k < wr.heap.size → k ≠ tm → (put wr tm o1).heap[k]? = wr.heap[k]? := fun k hk hne => t1.block k hk (fun e => hne (Option.some.inj e))
      have hzr : p < wr.heap.size := Nat.lt_of_lt_of_le hz hB.size
      have lzr : lm < wr.heap.size := Nat.lt_of_lt_of_le (lt_of_heap b2) hB.size
      have hl'' : Mp.Is (put wr tm o1) lm ([] : List (Int × Value)) := hl'.keep (w1h lm lzr (Ne.symm ne))
      have g7 : (put wr tm o1).cell? ⟨p, 7, none⟩ = some (.map (some lm)) := by
        rw [World.cell?]; simp only [(w1h p hzr pne).trans hp']; rfl
      obtain ⟨o2, u2, i2⟩ := run_clear (P := Tryz.prog) 240 3 4 0 Tryz.underlying240 hl''
      have t2 := put_grown (put wr tm o1) lm o2
      have w2h : ∀ k, k < wr.heap.size → k ≠ tm → k ≠ lm → (put (put wr tm o1) lm o2).heap[k]? = wr.heap[k]? := fun k hk hne hne2 => (t2.block k (by rw [put_size]; exact hk) (fun e => hne2 (Option.some.inj e))).trans (w1h k hk hne)
      have hkp : Kp (FZ N w) w (put (put wr tm o1) lm o2) := ⟨t2.os.trans (t1.os.trans hB.os), t2.tape.trans (t1.tape.trans hB.tape), t2.output.trans (t1.output.trans hB.output), by rw [put_size, put_size]; exact hB.size,
        fun k hk hn => by
          have a1 : k ≠ tm := fun e => hn ⟨e ▸ n1, by rw [e]; exact ⟨_, _, b1⟩⟩
          have a2 : k ≠ lm := fun e => hn ⟨e ▸ n3, by rw [e]; exact ⟨_, _, b2⟩⟩
          rw [w2h k (Nat.lt_of_lt_of_le hk hB.size) a1 a2]; exact hB.block k hk⟩
      have tmI : Mp.Is (put (put wr tm o1) lm o2) tm ([] : List (Int × Value)) := i1.keep (t2.block tm (by rw [put_size]; exact Nat.lt_of_lt_of_le (lt_of_heap b1) hB.size) (fun e => ne (Option.some.inj e)))
      have fmI : Mp.Is (put (put wr tm o1) lm o2) fm ([] : List (Int × Value)) := by
        by_cases f1 : fm = tm
        · rw [f1]; exact tmI
        · by_cases f2 : fm = lm
          · rw [f2]; exact i2
          · exact hf.keep ((w2h fm (Nat.lt_of_lt_of_le (lt_of_heap b3) hB.size) f1 f2).trans (hB.block fm (lt_of_heap b3)))
      have hpp : (put (put wr tm o1) lm o2).heap[p]? = _ := (w2h p hzr pne pne2).trans hp'
      have HP := Lib.hid (show PoolAt (put (put wr tm o1) lm o2) p d from_ many N from ⟨tm, fm, lm, hpp, tmI, fmI, i2, n0, n1, n2, n3, ne⟩)
      have HK := Lib.hid hkp
      have gs1 : (put wr tm o1).heap.size = wr.heap.size := put_size _ _ _
      clear r1 r2 q1 q3 hb3 r3 hB hkp hpp tmI fmI i2 t1 t2 w1h w2h fne
      go_wp2
      go_end0
      exact ⟨rfl, HP.out, HK.out⟩
end Go.Proofs.YtmbfenkmabdokaaGreatDoor

namespace Go.Proofs.YtmbfenkmabdokaaGreatDoor
open Go.RowKit Go.Mp

theorem zeros_sum : tailB (crc (zeros.take 508)) ≠ zeros.drop 508 := of_decide_eq_true (by kernel_rfl)
theorem zeros_len : zeros.length = 512 := by rw [zeros, List.length_replicate]

theorem set_heap {w : World} {s : Nat} {a : Array Value} {t : TypeId} {fz : Nat × Nat} (i : Nat) (v : Value) (h : w.heap[s]? = some (.cells a t fz)) :
    (w.setCell ⟨s, i, none⟩ v).heap[s]? = some (.cells (a.setIfInBounds i v) t fz) := by
  rw [setCell_eq_setRow w s i _ _ _ _ h]
  exact setRow_heap w s _ _ _ _ h
def z5 : Array Value := #[.int .i64 0, .int .i64 0, .int .i64 0, .int .i64 0, .int .i64 0]

set_option maxRecDepth 100000 in
theorem walRead_zeros (w : World) (b : Nat) (hl : RdB w (some ⟨b, 0, none⟩) zeros) (hE : EnvN w) :
    Calls Tryz.prog 147 #[.slice (some ⟨b, 0, none⟩) 512 512] w fun e w' =>
      e = .returned (.tuple #[.agg #[.int .i64 0, .int .i64 0, .int .i64 0, .int .i64 0, .int .i64 0], .slice none 0 0, .bool false]) ∧ Below w.heap.size w w' := by
  have cO : ∀ W, Below w.heap.size w W → Calls Tryz.prog 191 #[.slice (some ⟨b, 0, none⟩) 512 512] W fun e w' => e = .returned (.tuple #[.slice none 0 0, .bool false]) ∧ Below W.heap.size W w' := fun W hW =>
    sumOpen_no b 0 512 zeros 508 W (by omega) zeros_len (by rw [zeros_len]; omega) (by unfold maxLen; omega) (hl.below hW) (hE.below hW) zeros_sum
  go_enter Tryz.func147, Tryz.ntmps147
  go_wp2_with fail
  have hb0 : Below w.heap.size w (w.alloc (.cells #[.int .i64 0, .int .i64 0, .int .i64 0, .int .i64 0, .int .i64 0] 185)) := (Below.refl _ _).alloc (Nat.le_refl _) _
  refine (cO _ hb0).mono ?_
  rintro e w2 ⟨rfl, hb2⟩
  have hh : w2.heap[w.heap.size]? = some (.cells #[.int .i64 0, .int .i64 0, .int .i64 0, .int .i64 0, .int .i64 0] 185 (0, 0)) := (hb2.block _ (by simp)).trans (heap_alloc_new w _)
  have hs2 : w.heap.size < w2.heap.size := lt_of_heap hh
  have f0 : w2.frozen? ⟨w.heap.size, 0, none⟩ = false := by simp [World.frozen?, hh]
  have f1 : w2.frozen? ⟨w.heap.size, 1, none⟩ = false := by simp [World.frozen?, hh]
  have f2 : w2.frozen? ⟨w.heap.size, 2, none⟩ = false := by simp [World.frozen?, hh]
  have f3 : w2.frozen? ⟨w.heap.size, 3, none⟩ = false := by simp [World.frozen?, hh]
  have f4 : w2.frozen? ⟨w.heap.size, 4, none⟩ = false := by simp [World.frozen?, hh]
  have g0 : w2.cell? ⟨w.heap.size, 0, none⟩ = some (.int .i64 0) := by simp [World.cell?, hh]
  have g1 : w2.cell? ⟨w.heap.size, 1, none⟩ = some (.int .i64 0) := by simp [World.cell?, hh]
  have g2 : w2.cell? ⟨w.heap.size, 2, none⟩ = some (.int .i64 0) := by simp [World.cell?, hh]
  have g3 : w2.cell? ⟨w.heap.size, 3, none⟩ = some (.int .i64 0) := by simp [World.cell?, hh]
  have g4 : w2.cell? ⟨w.heap.size, 4, none⟩ = some (.int .i64 0) := by simp [World.cell?, hh]
  obtain ⟨w3, hw3⟩ : ∃ w3, w3 = ((((w2.setCell ⟨w.heap.size, 0, none⟩ (.int .i64 0)).setCell ⟨w.heap.size, 1, none⟩ (.int .i64 0)).setCell ⟨w.heap.size, 2, none⟩ (.int .i64 0)).setCell ⟨w.heap.size, 3, none⟩ (.int .i64 0)).setCell ⟨w.heap.size, 4, none⟩ (.int .i64 0) := ⟨_, rfl⟩
  have h3 : w3.heap[w.heap.size]? = some (.cells #[.int .i64 0, .int .i64 0, .int .i64 0, .int .i64 0, .int .i64 0] 185 (0, 0)) := by
    rw [hw3]; exact set_heap 4 _ (set_heap 3 _ (set_heap 2 _ (set_heap 1 _ (set_heap 0 _ hh))))
  have hB3 : Below w.heap.size w w3 := by
    rw [hw3]; exact (((((hb0.trans (hb2.mono hb0.size)).setCell (Nat.le_refl _) _).setCell (Nat.le_refl _) _).setCell (Nat.le_refl _) _).setCell (Nat.le_refl _) _).setCell (Nat.le_refl _) _
  clear hb0 hb2 hh
  have HB := Lib.hid hB3
  have H3 := Lib.hid h3
  have HW := Lib.hid hw3
  clear hB3 h3 hw3
  go_wp2
  rw [← HW.out]
  have h3 := H3.out
  have r0 : w3.cell? ⟨w.heap.size, 0, none⟩ = some (.int .i64 0) := by simp [World.cell?, h3]
  have r1 : w3.cell? ⟨w.heap.size, 1, none⟩ = some (.int .i64 0) := by simp [World.cell?, h3]
  have r2 : w3.cell? ⟨w.heap.size, 2, none⟩ = some (.int .i64 0) := by simp [World.cell?, h3]
  have r3 : w3.cell? ⟨w.heap.size, 3, none⟩ = some (.int .i64 0) := by simp [World.cell?, h3]
  have r4 : w3.cell? ⟨w.heap.size, 4, none⟩ = some (.int .i64 0) := by simp [World.cell?, h3]
  clear h3 f0 f1 f2 f3 f4 g0 g1 g2 g3 g4
  refine bodyPost_ret (v := .tuple #[.agg #[.int .i64 0, .int .i64 0, .int .i64 0, .int .i64 0, .int .i64 0], .slice none 0 0, .bool false]) ?_ rfl ⟨rfl, HB.out⟩
  simp [results, Tryz.results147, go_sem, r0, r1, r2, r3, r4]
end Go.Proofs.YtmbfenkmabdokaaGreatDoor

namespace Go.Proofs.YtmbfenkmabdokaaGreatDoor
open Go.RowKit Go.Mp Go.Shelf
attribute [local go_sem] Oper.semAt_some

theorem heap_alloc_push (w : World) (o : Obj) : (w.alloc o).heap = w.heap.push o := rfl

theorem shut_rd (B : Nat) (A : Option Addr) (l : Bytes) : RoundShut B (fun W => RdB W A l) := by
  refine ⟨fun W o h => h.below ((Below.refl _ _).alloc (Nat.le_refl _) _), fun W r o ob h _ hob hc => ?_⟩
  rcases h with h | ⟨b, off, hA, h⟩
  · exact .inl h
  · refine .inr ⟨b, off, hA, fun i hi => ?_⟩
    exact cell_kept (h i hi) (grownBy_putObj' W r o) (fun r' e => by cases e; exact ⟨_, hob, hc⟩)

theorem walSectors (w : World) (d from_ many bad : Nat) :
    Calls Tryz.prog 146 #[.pointer (some ⟨d, 0, none⟩), .int .i64 from_, .int .i64 many, .pointer (some ⟨bad, 0, none⟩)] w fun e w' =>
      e = .returned (.func (.func 190) #[] #[.pointer (some ⟨w.heap.size + 1 + 1, 0, none⟩), .pointer (some ⟨w.heap.size, 0, none⟩), .pointer (some ⟨w.heap.size + 1, 0, none⟩), .pointer (some ⟨w.heap.size + 1 + 1 + 1, 0, none⟩)]) ∧
      w' = (((w.alloc (.cells #[.pointer (some ⟨d, 0, none⟩)] 71)).alloc (.cells #[.int .i64 from_] 3)).alloc (.cells #[.int .i64 many] 3)).alloc (.cells #[.pointer (some ⟨bad, 0, none⟩)] 220) := by
  go_enter Tryz.func146, Tryz.ntmps146
  go_wp2
  go_ret
  exact ⟨rfl, rfl⟩

set_option maxRecDepth 100000 in
set_option maxHeartbeats 1000000 in
theorem walOpen_zeros (w : World) (d bx B N secs W from_ many : Nat) (epoch : Nat) (D : Nat → Bytes) (hd : DiskP w d bx) (h : DiskAt w B N bx secs W D) (h1 : 1 ≤ many) (h2 : from_ + many ≤ secs) (hE : EnvN w)
    (he1 : 1 ≤ epoch) (he2 : epoch ≤ 1099511627776) (hz : ∀ k, k < many → D (from_ + k) = zeros) :
    Calls Tryz.prog 90 #[.pointer (some ⟨d, 0, none⟩), .int .i64 from_, .int .i64 many, .int .i64 epoch] w fun e w' =>
      (∃ lg, e = .returned (.tuple #[.pointer (some ⟨lg, 0, none⟩), .slice none 0 0, .nilIface])) ∧ Below w.heap.size w w' := by
  have hroom := h.room
  have hS := Sectors_any (w.alloc (.cells #[.int .i64 epoch] 3)) d bx B N secs W D (hd.below ((Below.refl _ _).alloc (Nat.le_refl _) _)) (h.below ((Below.refl _ _).alloc (Nat.le_refl _) _))
  have hSec := walSectors
  refine (callsIn_wide (n := 8)).1 ?_
  refine callsIn_of_wp_marks Tryz.func90 rfl trivial ?_
  simp only [Tryz.ntmps90, List.size_toArray, List.length_cons, List.length_nil, Nat.reduceAdd, Nat.reduceSub, Array.replicate_succ, Array.replicate_zero, List.push_toArray, List.append_toArray, List.nil_append, List.cons_append]
  gi_wp2_with first | (refine ⟨trivial, ?_⟩; gi_at_call 65; refine (callsIn_wide.2 hS).mono ?_; rintro e w0 ⟨rfl, rfl⟩) | (refine ⟨trivial, ?_⟩; gi_at_call 146; refine (callsIn_wide.2 (hSec _ _ _ _ _)).mono ?_; rintro e w1 ⟨rfl, rfl⟩) | fail
  generalize hW0 : World.alloc (World.alloc (World.alloc (World.alloc _ _) _) _) _ = W0
  have x2 : Boxed W0 (w.heap.size + 1 + 1) 103 (.pointer (some ⟨w.heap.size + 1, 0, none⟩)) := by rw [← hW0]; (unfold Boxed; simp only [heap_alloc_push, Array.getElem?_push, Array.size_push]; repeat (first | rw [if_pos trivial] | rw [if_neg (by omega)] | rw [if_pos (by omega)]))
  have x3 : Boxed W0 (w.heap.size + 1 + 1 + 1) 135 (.slice none 0 0) := by rw [← hW0]; (unfold Boxed; simp only [heap_alloc_push, Array.getElem?_push, Array.size_push]; repeat (first | rw [if_pos trivial] | rw [if_neg (by omega)] | rw [if_pos (by omega)]))
  have x5 : Boxed W0 (w.heap.size + 1 + 1 + 1 + 1 + 1) 3 (.int .i64 0) := by rw [← hW0]; (unfold Boxed; simp only [heap_alloc_push, Array.getElem?_push, Array.size_push]; repeat (first | rw [if_pos trivial] | rw [if_neg (by omega)] | rw [if_pos (by omega)]))
  have x6 : Boxed W0 (w.heap.size + 1 + 1 + 1 + 1 + 1 + 1) 3 (.int .i64 0) := by rw [← hW0]; (unfold Boxed; simp only [heap_alloc_push, Array.getElem?_push, Array.size_push]; repeat (first | rw [if_pos trivial] | rw [if_neg (by omega)] | rw [if_pos (by omega)]))
  have x7 : Boxed W0 (w.heap.size + 1 + 1 + 1 + 1 + 1 + 1 + 1) 59 .nilIface := by rw [← hW0]; (unfold Boxed; simp only [heap_alloc_push, Array.getElem?_push, Array.size_push]; repeat (first | rw [if_pos trivial] | rw [if_neg (by omega)] | rw [if_pos (by omega)]))
  have x8 : Boxed W0 (w.heap.size + 8) 71 (.pointer (some ⟨d, 0, none⟩)) := by rw [← hW0]; (unfold Boxed; simp only [heap_alloc_push, Array.getElem?_push, Array.size_push]; repeat (first | rw [if_pos trivial] | rw [if_neg (by omega)] | rw [if_pos (by omega)]))
  have x9 : Boxed W0 (w.heap.size + 9) 3 (.int .i64 from_) := by rw [← hW0]; (unfold Boxed; simp only [heap_alloc_push, Array.getElem?_push, Array.size_push]; repeat (first | rw [if_pos trivial] | rw [if_neg (by omega)] | rw [if_pos (by omega)]))
  have x10 : Boxed W0 (w.heap.size + 10) 3 (.int .i64 many) := by rw [← hW0]; (unfold Boxed; simp only [heap_alloc_push, Array.getElem?_push, Array.size_push]; repeat (first | rw [if_pos trivial] | rw [if_neg (by omega)] | rw [if_pos (by omega)]))
  have hb0 : Below w.heap.size w W0 := by
    rw [← hW0]
    exact ((((((((((((Below.refl _ _).alloc (by simp) _).alloc (by simp <;> omega) _).alloc (by simp <;> omega) _).alloc (by simp <;> omega) _).alloc (by simp <;> omega) _).alloc (by simp <;> omega) _).alloc (by simp <;> omega) _).alloc (by simp <;> omega) _).alloc (by simp <;> omega) _).alloc (by simp <;> omega) _).alloc (by simp <;> omega) _).alloc (by simp <;> omega) _
  have hsz : W0.heap.size = w.heap.size + 12 := by rw [← hW0]; simp
  obtain ⟨I, hI⟩ : ∃ I : World → Prop, I = fun W => Below w.heap.size w W ∧ Boxed W (w.heap.size + 1 + 1) 103 (.pointer (some ⟨w.heap.size + 1, 0, none⟩)) ∧ Boxed W (w.heap.size + 1 + 1 + 1) 135 (.slice none 0 0) ∧
    Boxed W (w.heap.size + 1 + 1 + 1 + 1 + 1) 3 (.int .i64 0) ∧ Boxed W (w.heap.size + 1 + 1 + 1 + 1 + 1 + 1) 3 (.int .i64 0) ∧ Boxed W (w.heap.size + 1 + 1 + 1 + 1 + 1 + 1 + 1) 59 .nilIface ∧
    Boxed W (w.heap.size + 8) 71 (.pointer (some ⟨d, 0, none⟩)) ∧ Boxed W (w.heap.size + 9) 3 (.int .i64 from_) ∧ Boxed W (w.heap.size + 10) 3 (.int .i64 many) := ⟨_, rfl⟩
  have sI : RoundShut W0.heap.size I := by
    rw [hI]
    exact (shut_below (by omega)).and ((shut_boxed _ _ _ _).and ((shut_boxed _ _ _ _).and ((shut_boxed _ _ _ _).and ((shut_boxed _ _ _ _).and ((shut_boxed _ _ _ _).and ((shut_boxed _ _ _ _).and ((shut_boxed _ _ _ _).and (shut_boxed _ _ _ _))))))))
  have bI : ∀ X Y, I X → Below X.heap.size X Y → I Y := by
    rw [hI]
    rintro X Y ⟨p0, p1, p2, p3, p4, p5, p6, p7, p8⟩ k
    have kb : ∀ b t v, Boxed X b t v → Boxed Y b t v := fun b t v h => by unfold Boxed; rw [k.block _ h.lt]; exact h
    exact ⟨p0.trans (k.mono p0.size), kb _ _ _ p1, kb _ _ _ p2, kb _ _ _ p3, kb _ _ _ p4, kb _ _ _ p5, kb _ _ _ p6, kb _ _ _ p7, kb _ _ _ p8⟩
  have I0 : I W0 := by rw [hI]; exact ⟨hb0, x2, x3, x5, x6, x7, x8, x9, x10⟩
  have HI := Lib.hid hI
  clear x2 x3 x5 x6 x7 x8 x9 x10 hb0 hW0 hI hSec hS
  refine wpIn_rangeFunc_my (α := Nat × Nat) rfl (by omega) (gf := 190) rfl trivial (enters_of Tryz.func190 (by kernel_rfl) rfl) (fun x => #[.int .i64 x.1, .slice (some ⟨x.2, 0, none⟩) 512 512])
    I (fun x W => RdB W (some ⟨x.2, 0, none⟩) zeros ∧ I W) (fun c W => c = .exit 0 ∧ I W) sI (fun x => (shut_rd _ _ _).and sI) (fun c => (shut_pure _ _).and sI) I0 ?a1 (fun _ _ _ => rfl) ?assign ?body ?it ?done ?stop
  case assign =>
    intro l x W K hA hK
    gi_wp2
    exact hK
  case body =>
    rintro l x W ⟨hr, hi⟩
    have hB : Below w.heap.size w W := by have := HI.out; rw [this] at hi; exact hi.1
    have cR := walRead_zeros W x.2 hr (hE.below hB)
    gi_wp2_with first | (refine ⟨trivial, ?_⟩; gi_at_call 147; refine (CallsIn.inRound l (callsIn_wide.2 cR)).mono ?_; rintro e w1 ⟨rfl, hb1⟩; have hi1 := bI _ _ hi hb1; rw [HI.out] at hi1; obtain ⟨p0, p1, p2, p3, p4, p5, p6, p7, p8⟩ := hi1; have c3 := p3.cell; have c4 := p4.cell; have f3 := p3.frozen; have l3 := p3.lt; have l4 := p4.lt; have hk1 : KeepsOthers W w1 := ⟨hb1.size, fun k o hk _ => (hb1.block k (Array.getElem?_eq_some_iff.1 hk).1).trans hk⟩; have P0 := Lib.hid p0; have P1 := Lib.hid p1; have P2 := Lib.hid p2; have P3 := Lib.hid p3; have P4 := Lib.hid p4; have P5 := Lib.hid p5; have P6 := Lib.hid p6; have P7 := Lib.hid p7; have P8 := Lib.hid p8; have HK1 := Lib.hid hk1; clear p0 p1 p2 p3 p4 p5 p6 p7 p8 hb1 hk1) | fail
    refine ⟨KeepsOthers.trans HK1.out ((KeepsOthers.setCell _ _ _).trans (KeepsOthers.alloc _ _)), rfl, ?_⟩
    refine bI _ _ ?_ ((Below.refl _ _).alloc (Nat.le_refl _) _)
    rw [HI.out]
    exact ⟨P0.out.setCell (by show w.heap.size ≤ w.heap.size + 1 + 1 + 1 + 1 + 1; omega) _, P1.out.other (by omega) _, P2.out.other (by omega) _, P3.out.set _, P4.out.other (by omega) _, P5.out.other (by omega) _, P6.out.other (by omega) _, P7.out.other (by omega) _, P8.out.other (by omega) _⟩
  case it =>
    intro l RD DN hRD hDN hY WW hr hi
    have hi' := hi
    rw [HI.out] at hi'
    obtain ⟨_, _, _, _, _, _, _, _, p8⟩ := hi'
    have c8 := p8.cell
    have l8 := p8.lt
    clear p8
    refine callsIn_of_wp Tryz.func190 rfl trivial ?_
    simp only [Tryz.ntmps190, List.size_toArray, List.length_cons, List.length_nil, Nat.reduceAdd, Nat.reduceSub, Array.replicate_succ, Array.replicate_zero, List.push_toArray, List.append_toArray, List.nil_append, List.cons_append]
    gi_wp2
    gi_loopw [10] (fun i wr => ∃ k : Nat, k ≤ many ∧ i = .int .i64 k ∧ RD wr ∧ I wr) (fun i _ => many - (intOf i).toNat)
    case atStart => exact ⟨0, Nat.zero_le _, rfl, hr, hi⟩
    case round =>
      obtain ⟨k, hk, rfl, hr2, hi2⟩ := hrel
      by_cases hlt : k < many
      · have hi3 := hi2
        rw [HI.out] at hi3
        obtain ⟨q0, _, _, _, _, _, q6, q7, q8⟩ := hi3
        have d6 := q6.cell
        have d7 := q7.cell
        have m6 := q6.lt
        have m7 := q7.lt
        have cR : Calls Tryz.prog 140 #[.pointer (some ⟨d, 0, none⟩), .int .i64 ((from_ : Int) + k)] wr fun e w' => e = .returned (.tuple #[.slice (some ⟨wr.heap.size, 0, none⟩) 512 512, .nilIface]) ∧ Below wr.heap.size wr w' ∧ w'.heap[wr.heap.size]? = some (.cells (bcs (D (from_ + k))).toArray 5 (0, 0)) :=
          Read_disk wr d bx B N secs _ (from_ + k) D (hd.below q0) (h.below q0) (by omega)
        rw [hz k hlt] at cR
        clear q0 q6 q7 q8
        gi_wp2_with first | (refine ⟨trivial, ?_⟩; gi_at_call 140; refine (callsIn_wide.2 cR).mono ?_; rintro e w2 ⟨rfl, hb2, hrow⟩; have hRz := row_rd hrow; obtain ⟨fn, tmps, assign, body, hy, hR⟩ := hY (k, wr.heap.size) w2 (hRD _ _ hr2 hb2) ⟨hRz, bI _ _ hi2 hb2⟩; dsimp only at hy) | fail
        refine hR.mono ?_
        rintro e W' (⟨rfl, hr5, hi5⟩ | ⟨rfl, c, hd5, hc5, hi5⟩)
        · clear cR hb2 hrow
          gi_wp2
          go_roundw
          case rel => exact ⟨k + 1, by omega, by go_num, hr5, hi5⟩
          case measure => simp [intOf]; omega
        · clear cR hb2 hrow
          gi_wp2
          refine bodyPost_ret (v := .tuple #[]) (by simp [results, Tryz.results190, go_sem]) rfl ⟨⟨_, rfl⟩, .inr ⟨c, hd5, hc5, hi5⟩⟩
      · obtain rfl : k = many := by omega
        gi_wp2
        go_end0
        exact ⟨⟨_, rfl⟩, .inl ⟨hr2, hi2⟩⟩
  case done =>
    intro WW hi hK
    rw [HI.out] at hi
    obtain ⟨p0, p1, p2, p3, p4, p5, p6, p7, p8⟩ := hi
    have e1 := p1.cell
    have e2 := p2.cell
    have e5 := p5.cell
    have l1 := p1.lt
    have l2 := p2.lt
    have l5 := p5.lt
    have HB := Lib.hid p0
    have HK := Lib.hid hK
    clear p0 p1 p2 p3 p4 p5 p6 p7 p8 hK
    gi_wp2
    gi_region
    all_goals gi_wp2
    refine ⟨by simp, .inl ⟨_, _, rfl, run_takeDeferred (w := WW.drew) HK.out, ?_⟩⟩
    refine ⟨.tuple #[.pointer (some ⟨w.heap.size + 1, 0, none⟩), .slice none 0 0, .nilIface], by simp [results, Tryz.results90, go_sem], ⟨_, rfl⟩, ?_⟩
    exact (shut_below (w := w) (B := W0.heap.size) (by omega)).put WW.drew _ _ _ HB.out.drew (Nat.le_refl _) HK.out rfl
  case stop =>
    rintro c WW ⟨rfl, hi⟩ hK
    rw [HI.out] at hi
    obtain ⟨p0, p1, p2, p3, p4, p5, p6, p7, p8⟩ := hi
    have e1 := p1.cell
    have e2 := p2.cell
    have e5 := p5.cell
    have l1 := p1.lt
    have l2 := p2.lt
    have l5 := p5.lt
    have HB := Lib.hid p0
    have HK := Lib.hid hK
    clear p0 p1 p2 p3 p4 p5 p6 p7 p8 hK
    gi_wp2
    gi_region
    all_goals gi_wp2
    refine ⟨by simp, .inl ⟨_, _, rfl, run_takeDeferred (w := WW.drew) HK.out, ?_⟩⟩
    refine ⟨.tuple #[.pointer (some ⟨w.heap.size + 1, 0, none⟩), .slice none 0 0, .nilIface], by simp [results, Tryz.results90, go_sem], ⟨_, rfl⟩, ?_⟩
    exact (shut_below (w := w) (B := W0.heap.size) (by omega)).put WW.drew _ _ _ HB.out.drew (Nat.le_refl _) HK.out rfl
end Go.Proofs.YtmbfenkmabdokaaGreatDoor
