/- Parts of the proof: Store. -/
import Derived.RangeFuncBox
import Derived.RangeFuncNested
import Derived.Test.YtmbfenkmabdokaaGreatDoorR07
import Derived.Test.YtmbfenkmabdokaaGreatDoorR08
set_option linter.all false
namespace Go.Proofs.YtmbfenkmabdokaaGreatDoor
open Go.RowKit Go.Mp

abbrev KV := List (ByteArray × ByteArray)
def wantV (v : ByteArray) : Value := .agg #[.string v, .bool false]
def wantL (M : KV) : List (ByteArray × Value) := M.map fun p => (p.1, wantV p.2)
def getM (M : KV) (k : ByteArray) : Option ByteArray := (M.find? fun p => decide (k = p.1)).map (·.2)
def putM (M : KV) (k v : ByteArray) : KV := if (M.find? fun p => decide (k = p.1)).isSome then M.map (fun p => if k = p.1 then (p.1, v) else p) else M ++ [(k, v)]
def delM (M : KV) (k : ByteArray) : KV := M.filter fun p => !decide (k = p.1)
theorem find_wantL (M : KV) (k : ByteArray) : (wantL M).find? (fun p => decide (k = p.1)) = (M.find? fun p => decide (k = p.1)).map fun p => (p.1, wantV p.2) := by
  induction M with
  | nil => rfl
  | cons p M ih =>
    have hc : wantL (p :: M) = (p.1, wantV p.2) :: wantL M := rfl
    rw [hc, List.find?_cons, List.find?_cons]
    by_cases e : k = p.1
    · simp [e]
    · simpa [e] using ih
theorem get_wantL (M : KV) (k : ByteArray) : Mp.get (wantL M) k = (getM M k).map wantV := by
  unfold Mp.get getM; rw [find_wantL]; simp [Function.comp_def]
theorem upd_wantL (M : KV) (k v : ByteArray) : Mp.upd (wantL M) k (wantV v) = wantL (putM M k v) := by
  unfold Mp.upd putM; rw [find_wantL]
  by_cases h : (M.find? fun p => decide (k = p.1)).isSome = true
  · rw [if_pos (by simpa using h), if_pos h]
    simp only [wantL, List.map_map]
    apply List.map_congr_left
    intro p _
    by_cases e : k = p.1 <;> simp [e]
  · rw [if_neg (by simpa using h), if_neg h]
    simp [wantL]
theorem del_wantL (M : KV) (k : ByteArray) : Mp.del (wantL M) k = wantL (delM M k) := by
  unfold Mp.del delM wantL; rw [List.filter_map]; rfl

/-- The store at block s: its tree (block t) has no pages, nothing is dead, the batch (block b) is M. -/
structure St (w : World) (s t p b : Nat) (M : KV) : Prop where
  raw : ∃ d log pages from_ version pool lg, StoreRaw w s d log pages from_ version pool (.pointer (some ⟨t, 0, none⟩)) lg b
  tree : TreeAt w t p
  bat : Mp.Is w b (wantL M)

section
variable {w w' : World} {s t p b : Nat} {M : KV}
theorem St.c6 (h : St w s t p b M) : w.cell? ⟨s, 6, none⟩ = some (.pointer (some ⟨t, 0, none⟩)) := by
  obtain ⟨d, log, pages, from_, version, pool, lg, h⟩ := h.raw; exact (h.cells 6 _ rfl).1
theorem St.c9 (h : St w s t p b M) : w.cell? ⟨s, 9, none⟩ = some (.map (some b)) := by
  obtain ⟨d, log, pages, from_, version, pool, lg, h⟩ := h.raw; exact (h.cells 9 _ rfl).1
theorem St.c10 (h : St w s t p b M) : w.cell? ⟨s, 10, none⟩ = some (.bool false) := by
  obtain ⟨d, log, pages, from_, version, pool, lg, h⟩ := h.raw; exact (h.cells 10 _ rfl).1
theorem St.ls (h : St w s t p b M) : s < w.heap.size := by
  obtain ⟨d, log, pages, from_, version, pool, lg, h⟩ := h.raw; exact lt_of_heap h
theorem St.lt (h : St w s t p b M) : t < w.heap.size := lt_of_heap h.tree
theorem St.lb (h : St w s t p b M) : b < w.heap.size := by
  obtain ⟨es, c, h⟩ := h.bat; exact lt_of_heap h.block
theorem St.bs (h : St w s t p b M) : b ≠ s := by
  rintro rfl
  obtain ⟨d, log, pages, from_, version, pool, lg, h1⟩ := h.raw
  obtain ⟨es, c, h2⟩ := h.bat
  have := h2.block; unfold StoreRaw at h1; rw [h1] at this; cases this
theorem St.bt (h : St w s t p b M) : b ≠ t := by
  rintro rfl
  obtain ⟨es, c, h2⟩ := h.bat
  have := h2.block; have h1 := h.tree; unfold TreeAt at h1; rw [h1] at this; cases this
theorem St.keep {F : Nat → Prop} (h : St w s t p b M) (k : Kp F w w') (hs : ¬ F s) (ht : ¬ F t) (hb : ¬ F b) : St w' s t p b M := by
  obtain ⟨d, log, pages, from_, version, pool, lg, h1⟩ := h.raw
  refine ⟨⟨d, log, pages, from_, version, pool, lg, ?_⟩, ?_, ?_⟩
  · unfold StoreRaw; rw [k.block _ h.ls hs]; exact h1
  · unfold TreeAt; rw [k.block _ h.lt ht]; exact h.tree
  · exact h.bat.keep (k.block _ h.lb hb)
theorem St.below (h : St w s t p b M) (k : Below w.heap.size w w') : St w' s t p b M :=
  h.keep (Kp.of_below k No) (fun hf => hf) (fun hf => hf) (fun hf => hf)
/-- the batch alone has turned -/
theorem St.turn {M' : KV} (h : St w s t p b M) (k : Kp (· = b) w w') (hb : Mp.Is w' b (wantL M')) : St w' s t p b M' := by
  obtain ⟨d, log, pages, from_, version, pool, lg, h1⟩ := h.raw
  refine ⟨⟨d, log, pages, from_, version, pool, lg, ?_⟩, ?_, hb⟩
  · unfold StoreRaw; rw [k.block _ h.ls (Ne.symm h.bs)]; exact h1
  · unfold TreeAt; rw [k.block _ h.lt (Ne.symm h.bt)]; exact h.tree
end

theorem Dead_ok (w : World) (s t p b : Nat) (M : KV) (h : St w s t p b M) :
    Calls Tryz.prog 41 #[.pointer (some ⟨s, 0, none⟩)] w fun e w' => e = .returned (.bool false) ∧ w = w' := by
  have h1 := h.c10
  go_enter Tryz.func41, Tryz.ntmps41
  go_wp2
  go_ret
  exact ⟨rfl, rfl⟩

/-- the closure that asks the tree: its boxes -/
structure AskBox (w : World) (z s : Nat) (key : ByteArray) : Prop where
  b0 : Boxed w z 31 (.pointer (some ⟨s, 0, none⟩))
  b1 : Boxed w (z + 1) 9 (.string key)
  b2 : Boxed w (z + 1 + 1) 9 (.string ⟨#[]⟩)
  b3 : Boxed w (z + 1 + 1 + 1) 4 (.bool false)

set_option maxRecDepth 100000 in
set_option maxHeartbeats 400000 in
theorem committed1_ok (w : World) (z s t p b : Nat) (M : KV) (key : ByteArray) (h : St w s t p b M) (x : AskBox w z s key) :
    Calls Tryz.prog 192 #[.pointer (some ⟨z, 0, none⟩), .pointer (some ⟨z + 1, 0, none⟩), .pointer (some ⟨z + 1 + 1, 0, none⟩), .pointer (some ⟨z + 1 + 1 + 1, 0, none⟩)] w fun e w' =>
      e = .returned .nilIface ∧ w' = ((w.setCell ⟨z + 1 + 1, 0, none⟩ (.string ⟨#[]⟩)).setCell ⟨z + 1 + 1 + 1, 0, none⟩ (.bool false)).drew := by
  obtain ⟨S, hSd⟩ : ∃ S : World → Prop, ∀ w', S w' ↔ (w'.cell? ⟨z, 0, none⟩ = some (.pointer (some ⟨s, 0, none⟩)) ∧ w'.cell? ⟨z + 1, 0, none⟩ = some (.string key) ∧ w'.cell? ⟨s, 6, none⟩ = some (.pointer (some ⟨t, 0, none⟩)) ∧
    w'.cell? ⟨z + 1 + 1, 0, none⟩ = some (.string ⟨#[]⟩) ∧ w'.frozen? ⟨z + 1 + 1, 0, none⟩ = false ∧ w'.cell? ⟨z + 1 + 1 + 1, 0, none⟩ = some (.bool false) ∧ w'.frozen? ⟨z + 1 + 1 + 1, 0, none⟩ = false) := ⟨_, fun _ => Iff.rfl⟩
  have hS : S w.drew := (hSd _).2 ⟨x.b0.cell, x.b1.cell, h.c6, x.b2.cell, x.b2.frozen, x.b3.cell, x.b3.frozen⟩
  have HSd := Lib.hid hSd
  have HT := Lib.hid h.tree
  have hne : s ≠ z + 1 + 1 ∧ s ≠ z + 1 + 1 + 1 := by
    obtain ⟨d, log, pages, from_, version, pool, lg, h1⟩ := h.raw
    unfold StoreRaw at h1
    constructor
    · rintro rfl
      have := x.b2; unfold Boxed at this; rw [h1] at this; cases this
    · rintro rfl
      have := x.b3; unfold Boxed at this; rw [h1] at this; cases this
  have k6 : ∀ (u : World) b v, s ≠ b → u.cell? ⟨s, 6, none⟩ = some (.pointer (some ⟨t, 0, none⟩)) → (u.setCell ⟨b, 0, none⟩ v).cell? ⟨s, 6, none⟩ = some (.pointer (some ⟨t, 0, none⟩)) := fun u b v hb hu => by
    rw [← hu]; exact World.cell?_of_block (Below.heap_setCell u ⟨b, 0, none⟩ v s hb)
  have X2 : AskBox (w.setCell ⟨z + 1 + 1, 0, none⟩ (.string ⟨#[]⟩)) z s key :=
    ⟨x.b0.other (by omega) _, x.b1.other (by omega) _, x.b2.set _, x.b3.other (by omega) _⟩
  have X3 : AskBox ((w.setCell ⟨z + 1 + 1, 0, none⟩ (.string ⟨#[]⟩)).setCell ⟨z + 1 + 1 + 1, 0, none⟩ (.bool false)) z s key :=
    ⟨X2.b0.other (by omega) _, X2.b1.other (by omega) _, X2.b2.other (by omega) _, X2.b3.set _⟩
  have hS2 : S (w.setCell ⟨z + 1 + 1, 0, none⟩ (.string ⟨#[]⟩)).drew :=
    (hSd _).2 ⟨X2.b0.cell, X2.b1.cell, k6 _ _ _ hne.1 h.c6, X2.b2.cell, X2.b2.frozen, X2.b3.cell, X2.b3.frozen⟩
  have hS3 : S ((w.setCell ⟨z + 1 + 1, 0, none⟩ (.string ⟨#[]⟩)).setCell ⟨z + 1 + 1 + 1, 0, none⟩ (.bool false)).drew :=
    (hSd _).2 ⟨X3.b0.cell, X3.b1.cell, k6 _ _ _ hne.2 (k6 _ _ _ hne.1 h.c6), X3.b2.cell, X3.b2.frozen, X3.b3.cell, X3.b3.frozen⟩
  have e2 := x.b2.cell
  have e3 := x.b3.cell
  have f2 := x.b2.frozen
  have f3 := x.b3.frozen
  clear hSd h x k6 hne X2 X3
  go_enter Tryz.func192, Tryz.ntmps192
  go_wp2
  refine wp_region_I (by kernel_rfl) S 99 ?_
  refine wpAnyS_take 0 (v := ?_) rfl (by kernel_rfl) (by kernel_rfl) (by kernel_rfl) rfl (fun _ _ _ h => h) (.inl ⟨rfl, fun w' hS' => ?_⟩) hS ?_; rotate_left 1; focus (have hf := (HSd.out w').1 hS'; (repeat (obtain ⟨_, hf⟩ := hf)); go_simp; (try rfl))
  refine wpAnyS_take 1 (v := ?_) rfl (by kernel_rfl) (by kernel_rfl) (by kernel_rfl) rfl (fun _ _ _ h => h) (.inl ⟨rfl, fun w' hS' => ?_⟩) hS ?_; rotate_left 1; focus (have hf := (HSd.out w').1 hS'; (repeat (obtain ⟨_, hf⟩ := hf)); go_simp; (try rfl))
  refine wpAnyS_take 2 (v := ?_) rfl (by kernel_rfl) (by kernel_rfl) (by kernel_rfl) rfl (fun _ _ _ h => h) (.inl ⟨rfl, fun w' hS' => ?_⟩) hS ?_; rotate_left 1; focus (have hf := (HSd.out w').1 hS'; (repeat (obtain ⟨_, hf⟩ := hf)); go_simp; (try rfl))
  refine wpAnyS_take 3 (v := ?_) rfl (by kernel_rfl) (by kernel_rfl) (by kernel_rfl) rfl (fun _ _ _ h => h) (.inl ⟨rfl, fun w' hS' => ?_⟩) hS ?_; rotate_left 1; focus (have hf := (HSd.out w').1 hS'; (repeat (obtain ⟨_, hf⟩ := hf)); go_simp; (try rfl))
  refine wpAnyS_take 4 (v := ?_) rfl (by kernel_rfl) (by kernel_rfl) (by kernel_rfl) rfl (fun _ _ _ h => h) (.inl ⟨rfl, fun w' hS' => ?_⟩) hS ?_; rotate_left 1; focus (have hf := (HSd.out w').1 hS'; (repeat (obtain ⟨_, hf⟩ := hf)); go_simp; (try rfl))
  refine wpAnyI_one 5 (by kernel_rfl) (wpOp_step rfl (fun K hK => ?_)); go_simp
  refine (treeGet_nil w.drew t p HT.out key).mono ?_
  rintro e w2 ⟨rfl, rfl⟩
  refine hK _ _ ⟨fun _ => hS, ?_⟩
  clear hK K
  refine wpAnyS_take 6 (v := ?_) rfl (by kernel_rfl) (by kernel_rfl) (by kernel_rfl) rfl (fun _ _ _ h => h) (.inl ⟨rfl, fun w' hS' => ?_⟩) hS ?_; rotate_left 1; focus (have hf := (HSd.out w').1 hS'; (repeat (obtain ⟨_, hf⟩ := hf)); go_simp; (try rfl))
  refine wpAnyS_take 7 (v := ?_) rfl (by kernel_rfl) (by kernel_rfl) (by kernel_rfl) rfl (fun _ _ _ h => h) (.inl ⟨rfl, fun w' hS' => ?_⟩) hS ?_; rotate_left 1; focus (have hf := (HSd.out w').1 hS'; (repeat (obtain ⟨_, hf⟩ := hf)); go_simp; (try rfl))
  refine wpAnyS_take 8 (v := ?_) rfl (by kernel_rfl) (by kernel_rfl) (by kernel_rfl) rfl (fun _ _ _ h => h) (.inl ⟨rfl, fun w' hS' => ?_⟩) hS ?_; rotate_left 1; focus (have hf := (HSd.out w').1 hS'; (repeat (obtain ⟨_, hf⟩ := hf)); go_simp; (try rfl))
  refine wpAnyS_take 9 (v := ?_) rfl (by kernel_rfl) (by kernel_rfl) (by kernel_rfl) rfl (fun _ _ _ h => h) (.inl ⟨rfl, fun w' hS' => ?_⟩) hS ?_; rotate_left 1; focus (have hf := (HSd.out w').1 hS'; (repeat (obtain ⟨_, hf⟩ := hf)); go_simp; (try rfl))
  refine wpAnyI_one 10 (by kernel_rfl) (wpOp_step rfl (fun K hK => ?_)); go_simp
  refine hK _ _ ⟨fun _ => hS2, ?_⟩
  clear hK K
  have hS := hS2
  refine wpAnyI_one 11 (by kernel_rfl) (wpOp_step rfl (fun K hK => ?_)); go_simp
  refine hK _ _ ⟨fun _ => hS3, ?_⟩
  clear hK K
  have hS := hS3
  refine wpAnyS_take 12 (v := ?_) rfl (by kernel_rfl) (by kernel_rfl) (by kernel_rfl) rfl (fun _ _ _ h => h) (.inl ⟨rfl, fun w' hS' => ?_⟩) hS ?_; rotate_left 1; focus (have hf := (HSd.out w').1 hS'; (repeat (obtain ⟨_, hf⟩ := hf)); go_simp; (try rfl))
  refine wpAnyI_done (by kernel_rfl) ?_ _
  go_simp
  clear hS hS2 hS3 HSd
  go_wp2
  go_ret
  exact ⟨rfl, rfl⟩

theorem do_ok (w : World) (s k : Nat) (lb : Array Value) (Q : World → Prop) (eg : ∀ args w, (callFunc k args).run Tryz.prog w = .ok (.enter k args) w) (hd : w.cell? ⟨s, 10, none⟩ = some (.bool false))
    (h : Calls Tryz.prog k lb w fun e w' => e = .returned .nilIface ∧ Q w') :
    Calls Tryz.prog 68 #[.pointer (some ⟨s, 0, none⟩), .func (.func k) #[] lb] w fun e w' => e = .returned .nilIface ∧ Q w' := by
  have H := Lib.hid h
  clear h
  go_enter Tryz.func68, Tryz.ntmps68
  go_wp2_with fail
  refine H.out.mono ?_
  rintro e w2 ⟨rfl, hq⟩
  have HQ := Lib.hid hq
  clear hq
  go_wp2
  go_ret
  exact ⟨rfl, HQ.out⟩

theorem ask_ok (w : World) (s k : Nat) (lb : Array Value) (Q : World → Prop) (eg : ∀ args w, (callFunc k args).run Tryz.prog w = .ok (.enter k args) w) (hd : w.cell? ⟨s, 10, none⟩ = some (.bool false))
    (h : Calls Tryz.prog k lb w fun e w' => e = .returned .nilIface ∧ Q w') :
    Calls Tryz.prog 102 #[.pointer (some ⟨s, 0, none⟩), .func (.func k) #[] lb] w fun e w' => e = .returned (.tuple #[]) ∧ Q w' := by
  have H := Lib.hid (do_ok w s k lb Q eg hd h)
  clear h hd eg
  go_enter Tryz.func102, Tryz.ntmps102
  go_wp2_with first | (go_at_call 68; refine H.out.mono ?_; rintro e w2 ⟨rfl, hq⟩; have HQ := Lib.hid hq; clear hq) | fail
  go_end0
  exact ⟨rfl, HQ.out⟩

set_option maxRecDepth 100000 in
set_option maxHeartbeats 400000 in
theorem committed_ok (w : World) (s t p b : Nat) (M : KV) (key : ByteArray) (h : St w s t p b M) :
    Calls Tryz.prog 148 #[.pointer (some ⟨s, 0, none⟩), .string key] w fun e w' =>
      e = .returned (.tuple #[.string ⟨#[]⟩, .bool false]) ∧ Below w.heap.size w w' := by
  go_enter Tryz.func148, Tryz.ntmps148
  obtain ⟨W0, hW0⟩ : ∃ W0, W0 = ((((w.alloc (.cells #[.pointer (some ⟨s, 0, none⟩)] 31)).alloc (.cells #[.string key] 9)).alloc (.cells #[.string ⟨#[]⟩] 9)).alloc (.cells #[.bool false] 4)) := ⟨_, rfl⟩
  have hb0 : Below w.heap.size w W0 := by
    rw [hW0]; exact ((((Below.refl _ _).alloc (by simp) _).alloc (by simp) _).alloc (by simp; omega) _).alloc (by simp; omega) _
  have X : AskBox W0 w.heap.size s key := by
    constructor
    · rw [hW0]; (unfold Boxed; simp only [heap_alloc_push, Array.getElem?_push, Array.size_push]; repeat (first | rw [if_pos trivial] | rw [if_neg (by omega)] | rw [if_pos (by omega)]))
    · rw [hW0]; (unfold Boxed; simp only [heap_alloc_push, Array.getElem?_push, Array.size_push]; repeat (first | rw [if_pos trivial] | rw [if_neg (by omega)] | rw [if_pos (by omega)]))
    · rw [hW0]; (unfold Boxed; simp only [heap_alloc_push, Array.getElem?_push, Array.size_push]; repeat (first | rw [if_pos trivial] | rw [if_neg (by omega)] | rw [if_pos (by omega)]))
    · rw [hW0]; (unfold Boxed; simp only [heap_alloc_push, Array.getElem?_push, Array.size_push]; repeat (first | rw [if_pos trivial] | rw [if_neg (by omega)] | rw [if_pos (by omega)]))
  have hSt := h.below hb0
  have c1 := ask_ok W0 s 192 _ _ (enters_of Tryz.func192 (by kernel_rfl) rfl) hSt.c10 (committed1_ok W0 w.heap.size s t p b M key hSt X)
  have X2 : AskBox (w := ((W0.setCell ⟨w.heap.size + 1 + 1, 0, none⟩ (.string ⟨#[]⟩)).setCell ⟨w.heap.size + 1 + 1 + 1, 0, none⟩ (.bool false)).drew) w.heap.size s key := by
    have Y2 : AskBox (W0.setCell ⟨w.heap.size + 1 + 1, 0, none⟩ (.string ⟨#[]⟩)) w.heap.size s key := ⟨X.b0.other (by omega) _, X.b1.other (by omega) _, X.b2.set _, X.b3.other (by omega) _⟩
    exact ⟨Y2.b0.other (by omega) _, Y2.b1.other (by omega) _, Y2.b2.other (by omega) _, Y2.b3.set _⟩
  have hb2 : Below w.heap.size w ((W0.setCell ⟨w.heap.size + 1 + 1, 0, none⟩ (.string ⟨#[]⟩)).setCell ⟨w.heap.size + 1 + 1 + 1, 0, none⟩ (.bool false)).drew :=
    ((hb0.setCell (by show w.heap.size ≤ w.heap.size + 1 + 1; omega) _).setCell (by show w.heap.size ≤ w.heap.size + 1 + 1 + 1; omega) _).drew
  generalize ((W0.setCell ⟨w.heap.size + 1 + 1, 0, none⟩ (.string ⟨#[]⟩)).setCell ⟨w.heap.size + 1 + 1 + 1, 0, none⟩ (.bool false)).drew = W2 at *
  have HX := Lib.hid X2
  have HB := Lib.hid hb2
  have C1 := Lib.hid c1
  have HW := Lib.hid hW0
  clear X X2 hb0 hb2 hSt h c1 hW0
  go_wp2_with fail
  rw [← HW.out]
  refine C1.out.mono ?_
  rintro e w2 ⟨rfl, rfl⟩
  have e2 := HX.out.b2.cell
  have e3 := HX.out.b3.cell
  have f2 := HX.out.b2.frozen
  have f3 := HX.out.b3.frozen
  go_wp2
  go_region
  go_wp2
  have g2 := (HX.out.b2.set (.string ⟨#[]⟩)).cell
  have g3 := ((HX.out.b3.other (B' := w.heap.size + 1 + 1) (by omega) (.string ⟨#[]⟩)).set (.bool false)).cell
  refine bodyPost_ret (v := .tuple #[.string ⟨#[]⟩, .bool false]) (by simp [results, Tryz.results148, go_sem, g2, g3]) rfl ⟨rfl, ?_⟩
  exact ((HB.out.setCell (by show w.heap.size ≤ w.heap.size + 1 + 1; omega) _).setCell (by show w.heap.size ≤ w.heap.size + 1 + 1 + 1; omega) _).drew
theorem wantv_zero : ∀ w, (zeroValue 158).run Tryz.prog w = .ok (.agg #[.string ⟨#[]⟩, .bool false]) w := fun w => by kernel_rfl

set_option maxRecDepth 100000 in
set_option maxHeartbeats 400000 in
theorem Get_ok (w : World) (s t p b : Nat) (M : KV) (key : ByteArray) (h : St w s t p b M) :
    Calls Tryz.prog 93 #[.pointer (some ⟨s, 0, none⟩), .string key] w fun e w' =>
      e = .returned (.tuple #[.string ((getM M key).getD ⟨#[]⟩), .bool (getM M key).isSome]) ∧ Below w.heap.size w w' := by
  have d9 := h.c9
  have hlk : (Instr.lookup 104 (.map (some b)) (.string key) true).run Tryz.prog w = _ := run_lookup_ok (P := Tryz.prog) 104 9 158 Tryz.underlying104 Tryz.underlying9 h.bat key _ wantv_zero
  rw [get_wantL] at hlk
  have cC := fun W (hb : Below w.heap.size w W) => committed_ok W s t p b M key (h.below hb)
  have HC := Lib.hid cC
  clear cC
  cases hg : getM M key with
  | none =>
    rw [hg] at hlk
    simp only [Option.map_none, Option.getD_none, Option.isSome_none] at hlk ⊢
    clear h hg
    go_enter Tryz.func93, Tryz.ntmps93
    go_wp2_with first | (go_at_call 148; refine (HC.out _ ((Below.refl _ _).alloc (Nat.le_refl _) _)).mono ?_; rintro e w2 ⟨rfl, hb2⟩; have HB := Lib.hid hb2; clear hb2) | fail
    go_ret2
    exact ⟨rfl, ((Below.refl _ _).alloc (Nat.le_refl _) _).trans (HB.out.mono (by simp))⟩
  | some v =>
    rw [hg] at hlk
    simp only [Option.map_some, Option.getD_some, Option.isSome_some, wantV] at hlk ⊢
    clear h hg
    go_enter Tryz.func93, Tryz.ntmps93
    go_wp2
    go_region
    go_wp2
    go_ret2
    exact ⟨rfl, ((Below.refl _ _).alloc (Nat.le_refl _) _).drew⟩
theorem Clone_ok (w : World) (x : ByteArray) (hx : x.size ≤ 281474976710656) :
    Calls Tryz.prog 31 #[.string x] w fun e w' => e = .returned (.string x) ∧ Below w.heap.size w w' := by
  have c := Lib.hid (Tryz.stringslite_Clone x w hx)
  go_enter Tryz.func31, Tryz.ntmps31
  go_wp2_with first | (go_at_call 81; refine c.out.mono ?_; rintro e w2 ⟨rfl, hb⟩) | fail
  go_ret
  exact ⟨rfl, hb⟩

set_option maxRecDepth 100000 in
set_option maxHeartbeats 1000000 in
theorem put_new (w : World) (s t p b : Nat) (M : KV) (key v : ByteArray) (h : St w s t p b M) (hk : key.size ≤ 281474976710656) (hv : v.size ≤ 281474976710656) :
    Calls Tryz.prog 97 #[.pointer (some ⟨s, 0, none⟩), .string key, .agg #[.string v, .bool false]] w fun e w' =>
      e = .returned (.tuple #[]) ∧ St w' s t p b (putM M key v) ∧ Kp (· = b) w w' := by
  have h10 := h.c10
  have hls := h.ls
  have cC := committed_ok (w.alloc (.cells #[.string v, .bool false] 158)) s t p b M key (h.below ((Below.refl _ _).alloc (Nat.le_refl _) _))
  have H := Lib.hid h
  have CC := Lib.hid cC
  clear cC h
  go_enter Tryz.func97, Tryz.ntmps97
  go_wp2_with fail
  refine CC.out.mono ?_
  rintro e w2 ⟨rfl, hb2⟩
  have bx : w2.heap[w.heap.size]? = some (.cells #[.string v, .bool false] 158 (0, 0)) := heap_below (heap_alloc_new w _) hb2
  have hb2' : Below w.heap.size w w2 := ((Below.refl _ _).alloc (Nat.le_refl _) _).trans (hb2.mono (by simp))
  have st2 := H.out.below hb2'
  have e0 : w2.cell? ⟨w.heap.size, 0, none⟩ = some (.string v) := by simp [World.cell?, bx]
  have e1 : w2.cell? ⟨w.heap.size, 1, none⟩ = some (.bool false) := by simp [World.cell?, bx]
  have d10 := st2.c10
  have hlz := lt_of_heap bx
  have BX := Lib.hid bx; have HB2 := Lib.hid hb2'; have ST2 := Lib.hid st2
  clear bx hb2 hb2' st2
  dsimp only
  go_wp2_with fail
  obtain ⟨S, hSd⟩ : ∃ S : World → Prop, ∀ w', S w' ↔ (w'.cell? ⟨s, 9, none⟩ = some (.map (some b)) ∧ w'.cell? ⟨w.heap.size, 0, none⟩ = some (.string v) ∧ w'.cell? ⟨w.heap.size, 1, none⟩ = some (.bool false)) := ⟨_, fun _ => Iff.rfl⟩
  have mkS : ∀ w3, St w3 s t p b M → w3.heap[w.heap.size]? = some (.cells #[.string v, .bool false] 158 (0, 0)) → S w3 := fun w3 h3 h4 => (hSd _).2 ⟨h3.c9, by simp [World.cell?, h4], by simp [World.cell?, h4]⟩
  have hS : S w2.drew := mkS _ (ST2.out.below (Below.refl _ _).drew) BX.out
  have nbz : b ≠ w.heap.size := by have := H.out.lb; omega
  have nbs := H.out.bs
  have HSd := Lib.hid hSd
  clear hSd
  refine wp_region_I (by kernel_rfl) S 99 ?_
  refine wpAnyS_take 0 (v := ?_) rfl (by kernel_rfl) (by kernel_rfl) (by kernel_rfl) rfl (fun _ _ _ h => h) (.inl ⟨rfl, fun w' hS' => ?_⟩) hS ?_; rotate_left 1; focus (have hf := (HSd.out w').1 hS'; (repeat (obtain ⟨_, hf⟩ := hf)); go_simp; (try rfl))
  refine wpAnyS_take 1 (v := ?_) rfl (by kernel_rfl) (by kernel_rfl) (by kernel_rfl) rfl (fun _ _ _ h => h) (.inl ⟨rfl, fun w' hS' => ?_⟩) hS ?_; rotate_left 1; focus (have hf := (HSd.out w').1 hS'; (repeat (obtain ⟨_, hf⟩ := hf)); go_simp; (try rfl))
  refine wpAnyS_take 2 (v := ?_) rfl (by kernel_rfl) (by kernel_rfl) (by kernel_rfl) rfl (fun _ _ _ h => h) (.inl ⟨rfl, fun w' hS' => ?_⟩) hS ?_; rotate_left 1; focus (have hf := (HSd.out w').1 hS'; (repeat (obtain ⟨_, hf⟩ := hf)); go_simp; (try rfl))
  refine wpAnyS_take 3 (v := ?_) rfl (by kernel_rfl) (by kernel_rfl) (by kernel_rfl) rfl (fun _ _ _ h => h) (.inl ⟨rfl, fun w' hS' => ?_⟩) hS ?_; rotate_left 1; focus (have hf := (HSd.out w').1 hS'; (repeat (obtain ⟨_, hf⟩ := hf)); go_simp; (try rfl))
  refine wpAnyS_take 4 (v := ?_) rfl (by kernel_rfl) (by kernel_rfl) (by kernel_rfl) rfl (fun _ _ _ h => h) (.inl ⟨rfl, fun w' hS' => ?_⟩) hS ?_; rotate_left 1; focus (have hf := (HSd.out w').1 hS'; (repeat (obtain ⟨_, hf⟩ := hf)); go_simp; (try rfl))
  refine wpAnyS_take 6 (v := ?_) rfl (by kernel_rfl) (by kernel_rfl) (by kernel_rfl) rfl (fun _ _ _ h => h) (.inl ⟨rfl, fun w' hS' => ?_⟩) hS ?_; rotate_left 1; focus (have hf := (HSd.out w').1 hS'; (repeat (obtain ⟨_, hf⟩ := hf)); go_simp; (try rfl))
  refine wpAnyS_take 7 (v := ?_) rfl (by kernel_rfl) (by kernel_rfl) (by kernel_rfl) rfl (fun _ _ _ h => h) (.inl ⟨rfl, fun w' hS' => ?_⟩) hS ?_; rotate_left 1; focus (have hf := (HSd.out w').1 hS'; (repeat (obtain ⟨_, hf⟩ := hf)); go_simp; (try rfl))
  refine wpAnyS_take 9 (v := ?_) rfl (by kernel_rfl) (by kernel_rfl) (by kernel_rfl) rfl (fun _ _ _ h => h) (.inl ⟨rfl, fun w' hS' => ?_⟩) hS ?_; rotate_left 1; focus (have hf := (HSd.out w').1 hS'; (repeat (obtain ⟨_, hf⟩ := hf)); go_simp; (try rfl))
  refine wpAnyS_take 10 (v := ?_) rfl (by kernel_rfl) (by kernel_rfl) (by kernel_rfl) rfl (fun _ _ _ h => h) (.inl ⟨rfl, fun w' hS' => ?_⟩) hS ?_; rotate_left 1; focus (have hf := (HSd.out w').1 hS'; (repeat (obtain ⟨_, hf⟩ := hf)); go_simp; (try rfl))
  refine wpAnyI_one 5 (by kernel_rfl) (wpOp_step rfl (fun K hK => ?_)); go_simp
  refine (Clone_ok w2.drew key hk).mono ?_
  rintro e w3 ⟨rfl, hb3⟩
  have hb3' : Below w2.heap.size w2 w3 := (Below.refl _ _).drew.trans hb3
  have st3 := ST2.out.below hb3'
  have bx3 := heap_below BX.out hb3'
  have hS := mkS _ st3 bx3
  refine hK _ _ ⟨fun _ => hS, ?_⟩
  clear hK K
  refine wpAnyI_one 8 (by kernel_rfl) (wpOp_step rfl (fun K hK => ?_)); go_simp
  refine (Clone_ok w3 v hv).mono ?_
  rintro e w4 ⟨rfl, hb4⟩
  have st4 := st3.below hb4
  have bx4 := heap_below bx3 hb4
  have hS := mkS _ st4 bx4
  refine hK _ _ ⟨fun _ => hS, ?_⟩
  clear hK K
  refine wpAnyS_take 11 (v := ?_) rfl (by kernel_rfl) (by kernel_rfl) (by kernel_rfl) rfl (fun _ _ _ h => h) (.inl ⟨rfl, fun w' hS' => ?_⟩) hS ?_; rotate_left 1; focus (have hf := (HSd.out w').1 hS'; (repeat (obtain ⟨_, hf⟩ := hf)); go_simp; (try rfl))
  obtain ⟨o, hup, his⟩ := run_update (P := Tryz.prog) 104 9 158 Tryz.underlying104 Tryz.underlying9 st4.bat key (wantV v)
  rw [upd_wantL] at his
  have hup' : (Instr.mapUpdate 104 (.map (some b)) (.string key) (.agg #[.string v, .bool false])).run Tryz.prog w4 = .ok () (Mp.put w4 b o) := hup
  have hg := put_grown w4 b o
  have kp : Kp (· = b) w4 (Mp.put w4 b o) := ⟨hg.os, hg.tape, hg.output, hg.size, fun k hk hn => hg.block k hk (fun e => hn (Option.some.inj e))⟩
  have st5 := st4.turn kp his
  have kall : Kp (· = b) w (Mp.put w4 b o) := ((Kp.of_below HB2.out _).trans ((Kp.of_below hb3' _).trans (Kp.of_below hb4 _))).trans kp
  have hS5 := mkS _ st4 bx4
  have hS := hS5
  have hSf : S (Mp.put w4 b o) := by
    obtain ⟨a1, a2, a3⟩ := (HSd.out _).1 hS5
    refine (HSd.out _).2 ⟨?_, ?_, ?_⟩
    · rw [← a1]; exact World.cell?_of_block (kp.block _ st4.ls (Ne.symm nbs))
    · rw [← a2]; exact World.cell?_of_block (kp.block _ (lt_of_heap bx4) (Ne.symm nbz))
    · rw [← a3]; exact World.cell?_of_block (kp.block _ (lt_of_heap bx4) (Ne.symm nbz))
  have ST5 := Lib.hid st5; have KA := Lib.hid kall; have HSF := Lib.hid hSf
  clear st3 st4 st5 kall kp hg his hup hb3 hb3' hb4 bx3 bx4 mkS hSf hS5
  refine wpAnyI_one 12 (by kernel_rfl) (wpOp_step rfl (fun K hK => ?_)); go_simp
  refine hK _ _ ⟨fun _ => HSF.out, ?_⟩
  clear hK K
  refine wpAnyI_done (by kernel_rfl) ?_ _
  go_simp
  clear hup' HSd
  go_wp2
  go_end0
  exact ⟨rfl, ST5.out, KA.out⟩
end Go.Proofs.YtmbfenkmabdokaaGreatDoor
