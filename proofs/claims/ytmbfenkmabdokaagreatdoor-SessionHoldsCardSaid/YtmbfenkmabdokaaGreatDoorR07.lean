/- Parts of the proof: Check1. -/
import Derived.Test.YtmbfenkmabdokaaGreatDoorR06
set_option linter.all false
namespace Go.Proofs.YtmbfenkmabdokaaGreatDoor
open Go.RowKit Go.Mp

theorem treeRoot_nil (w : World) (t p : Nat) (h : TreeAt w t p) :
    Calls Tryz.prog 116 #[.pointer (some ⟨t, 0, none⟩)] w fun e w' => e = .returned (.int .i64 (-1)) ∧ w' = w := by
  have h1 := h.root
  go_enter Tryz.func116, Tryz.ntmps116
  go_wp2
  go_ret
  exact ⟨rfl, rfl⟩

/-- a block that an act on the disk cannot turn -/
theorem not_DF {w : World} {B N b : Nat} {cs : Array Value} {t : TypeId} {fz : Nat × Nat} (hb : N ≤ b) (h : w.heap[b]? = some (.cells cs t fz)) (ht : t ≠ 206) : ¬ DF B N w b := by
  rintro ⟨_, h6 | ⟨cs', fz', h6⟩⟩
  · omega
  · rw [h] at h6; cases h6; exact ht rfl
theorem heap_df {w w' : World} {B N b : Nat} {cs : Array Value} {t : TypeId} {fz : Nat × Nat} (h : w.heap[b]? = some (.cells cs t fz)) (hb : N ≤ b) (ht : t ≠ 206) (k : Kp (DF B N w) w w') : w'.heap[b]? = some (.cells cs t fz) := by
  rw [k.block _ (lt_of_heap h) (not_DF hb h ht)]; exact h
theorem heap_below {w w' : World} {b : Nat} {o : Obj} (h : w.heap[b]? = some o) (k : Below w.heap.size w w') : w'.heap[b]? = some o := by
  rw [k.block _ (lt_of_heap h)]; exact h

set_option maxRecDepth 100000 in
set_option maxHeartbeats 1000000 in
theorem check1 (w : World) (b0 b1 s d bx B N secs W log pages from_ batch t p next : Nat) (version : Int) (pool lg : Value) (D : Nat → Bytes)
    (x0 : Boxed w b0 31 (.pointer (some ⟨s, 0, none⟩))) (x1 : Boxed w b1 3 (.int .i64 next)) (hs : StoreRaw w s d log pages from_ version pool (.pointer (some ⟨t, 0, none⟩)) lg batch) (ht : TreeAt w t p)
    (hd : DiskP w d bx) (h : DiskAt w B N bx secs W D) (hE : EnvN w) (hW : W < 1073741824) (hn : next ≤ maxLen) (h2 : 2 ≤ secs) (n0 : N ≤ b0) (n1 : N ≤ b1) (ns : N ≤ s) :
    Calls Tryz.prog 115 #[.pointer (some ⟨b0, 0, none⟩), .pointer (some ⟨b1, 0, none⟩)] w fun e w' =>
      e = .returned .nilIface ∧ DiskAt w' B N bx secs (W + 1) (fun i => if i = next % 2 then secB next 0 else D i) ∧ Kp (DF B N w) w w' := by
  obtain ⟨S, hSd⟩ : ∃ S : World → Prop, ∀ w', S w' ↔ (w'.cell? ⟨b0, 0, none⟩ = some (.pointer (some ⟨s, 0, none⟩)) ∧ w'.cell? ⟨b1, 0, none⟩ = some (.int .i64 next) ∧ w'.cell? ⟨s, 0, none⟩ = some (.pointer (some ⟨d, 0, none⟩)) ∧ w'.cell? ⟨s, 6, none⟩ = some (.pointer (some ⟨t, 0, none⟩))) := ⟨_, fun _ => Iff.rfl⟩
  have mkS : ∀ w', Boxed w' b0 31 (.pointer (some ⟨s, 0, none⟩)) → Boxed w' b1 3 (.int .i64 next) → StoreRaw w' s d log pages from_ version pool (.pointer (some ⟨t, 0, none⟩)) lg batch → S w' := fun w' y0 y1 y2 =>
    (hSd _).2 ⟨y0.cell, y1.cell, (y2.cells 0 _ rfl).1, (y2.cells 6 _ rfl).1⟩
  have hS : S w.drew := mkS _ x0 x1 hs
  have HSd := Lib.hid hSd
  have cH : ∀ w, EnvN w → Calls Tryz.prog 84 #[.int .i64 next, .int .i64 (-1)] w (RetB w (secB next 0)) := fun w hE => head_any next 0 w hn (by decide) hE
  clear hSd
  go_enter Tryz.func115, Tryz.ntmps115
  go_wp2
  refine wp_region_I (by kernel_rfl) S 14 ?_
  refine wpAnyI_take 0 (v := ?_) rfl (by kernel_rfl) (by kernel_rfl) (by kernel_rfl) (by kernel_rfl) (fun _ _ _ h => h) (.inl ⟨rfl, fun w' hS' => ?_⟩) hS ?_; rotate_left 1; focus (have hf := (HSd.out w').1 hS'; (repeat (obtain ⟨_, hf⟩ := hf)); go_simp; (try rfl))
  refine wpAnyI_take 1 (v := ?_) rfl (by kernel_rfl) (by kernel_rfl) (by kernel_rfl) (by kernel_rfl) (fun _ _ _ h => h) (.inl ⟨rfl, fun w' hS' => ?_⟩) hS ?_; rotate_left 1; focus (have hf := (HSd.out w').1 hS'; (repeat (obtain ⟨_, hf⟩ := hf)); go_simp; (try rfl))
  refine wpAnyI_take 2 (v := ?_) rfl (by kernel_rfl) (by kernel_rfl) (by kernel_rfl) (by kernel_rfl) (fun _ _ _ h => h) (.inl ⟨rfl, fun w' hS' => ?_⟩) hS ?_; rotate_left 1; focus (have hf := (HSd.out w').1 hS'; (repeat (obtain ⟨_, hf⟩ := hf)); go_simp; (try rfl))
  refine wpAnyI_take 3 (v := ?_) rfl (by kernel_rfl) (by kernel_rfl) (by kernel_rfl) (by kernel_rfl) (fun _ _ _ h => h) (.inl ⟨rfl, fun w' hS' => ?_⟩) hS ?_; rotate_left 1; focus (have hf := (HSd.out w').1 hS'; (repeat (obtain ⟨_, hf⟩ := hf)); go_simp; (try rfl))
  refine wpAnyI_take 4 (v := ?_) rfl (by kernel_rfl) (by kernel_rfl) (by kernel_rfl) (by kernel_rfl) (fun _ _ _ h => h) (.inl ⟨rfl, fun w' hS' => ?_⟩) hS ?_; rotate_left 1; focus (have hf := (HSd.out w').1 hS'; (repeat (obtain ⟨_, hf⟩ := hf)); go_simp; (try rfl))
  refine wpAnyI_take 5 (v := ?_) rfl (by kernel_rfl) (by kernel_rfl) (by kernel_rfl) (by kernel_rfl) (fun _ _ _ h => h) (.inl ⟨rfl, fun w' hS' => ?_⟩) hS ?_; rotate_left 1; focus (have hf := (HSd.out w').1 hS'; (repeat (obtain ⟨_, hf⟩ := hf)); go_simp; (try rfl))
  refine wpAnyI_take 6 (v := ?_) rfl (by kernel_rfl) (by kernel_rfl) (by kernel_rfl) (by kernel_rfl) (fun _ _ _ h => h) (.inl ⟨rfl, fun w' hS' => ?_⟩) hS ?_; rotate_left 1; focus (have hf := (HSd.out w').1 hS'; (repeat (obtain ⟨_, hf⟩ := hf)); go_simp; (try rfl))
  refine wpAnyI_take 7 (v := ?_) rfl (by kernel_rfl) (by kernel_rfl) (by kernel_rfl) (by kernel_rfl) (fun _ _ _ h => h) (.inl ⟨rfl, fun w' hS' => ?_⟩) hS ?_; rotate_left 1; focus (have hf := (HSd.out w').1 hS'; (repeat (obtain ⟨_, hf⟩ := hf)); go_simp; (try rfl))
  refine wpAnyI_take 8 (v := ?_) rfl (by kernel_rfl) (by kernel_rfl) (by kernel_rfl) (by kernel_rfl) (fun _ _ _ h => h) (.inl ⟨rfl, fun w' hS' => ?_⟩) hS ?_; rotate_left 1; focus (have hf := (HSd.out w').1 hS'; (repeat (obtain ⟨_, hf⟩ := hf)); go_simp; (try rfl))
  refine wpAnyI_take 9 (v := ?_) rfl (by kernel_rfl) (by kernel_rfl) (by kernel_rfl) (by kernel_rfl) (fun _ _ _ h => h) (.inl ⟨rfl, fun w' hS' => ?_⟩) hS ?_; rotate_left 1; focus (have hf := (HSd.out w').1 hS'; (repeat (obtain ⟨_, hf⟩ := hf)); go_simp; (try rfl))
  refine wpAnyI_take 10 (v := ?_) rfl (by kernel_rfl) (by kernel_rfl) (by kernel_rfl) (by kernel_rfl) (fun _ _ _ h => h) (.inl ⟨rfl, fun w' hS' => ?_⟩) hS ?_; rotate_left 1; focus (have hf := (HSd.out w').1 hS'; (repeat (obtain ⟨_, hf⟩ := hf)); go_simp; (try rfl))
  refine wpAnyI_one 11 (by kernel_rfl) (wpOp_step rfl (fun K hK => ?_)); go_simp
  refine (treeRoot_nil w.drew t p ht).mono ?_
  rintro e w2 ⟨rfl, rfl⟩
  refine hK _ _ ⟨fun _ => hS, ?_⟩
  clear hK K
  refine wpAnyI_one 12 (by kernel_rfl) (wpOp_step rfl (fun K hK => ?_)); go_simp
  refine (cH w.drew hE).mono ?_
  rintro e w2 ⟨⟨A, c, rfl, hc, hm, hR, ha, hty⟩, hb2⟩
  have hb2' : Below w.heap.size w w2 := (Below.refl _ _).drew.trans hb2
  have hS2 : S w2 := mkS _ (heap_below x0 hb2') (heap_below x1 hb2') (heap_below hs hb2')
  refine hK _ _ ⟨fun _ => hS2, ?_⟩
  clear hK K
  rw [secB_length] at *
  refine wpAnyI_one 13 (by kernel_rfl) (wpOp_step rfl (fun K hK => ?_)); go_simp
  have cW := Write_disk w2 d bx B N secs W (next % 2) D (hd.below hb2') (h.below hb2') hW (by omega) A c (secB next 0) hR (secB_length _ _)
  refine cW.mono ?_
  rintro e w3 ⟨rfl, hat3, hkp3⟩
  have hS3 : S w3 := mkS _ (heap_df (heap_below x0 hb2') n0 (by decide) hkp3) (heap_df (heap_below x1 hb2') n1 (by decide) hkp3) (heap_df (heap_below hs hb2') ns (by decide) hkp3)
  refine hK _ _ ⟨fun _ => hS3, ?_⟩
  clear hK K
  refine wpAnyI_one 14 (by kernel_rfl) (wpOp_step rfl (fun K hK => ?_)); go_simp; refine hK _ _ ⟨fun h => absurd rfl h, ?_⟩; clear hK K; refine wpAnyI_done (by kernel_rfl) ?_ _; go_simp
  have HK := Lib.hid (DF.trans (Kp.of_below hb2' _) hkp3)
  have HA := Lib.hid hat3
  clear hat3 hkp3 cW
  go_wp2
  go_ret
  exact ⟨rfl, HA.out, HK.out⟩
end Go.Proofs.YtmbfenkmabdokaaGreatDoor
