/- Parts of the proof: Check. -/
import Derived.Test.YtmbfenkmabdokaaGreatDoorR07
set_option linter.all false
namespace Go.Proofs.YtmbfenkmabdokaaGreatDoor
open Go.RowKit Go.Mp

theorem pool_df {w w' : World} {p d from_ many M B N : Nat} (h : PoolAt w p d from_ many M) (hM : N ≤ M) (k : Kp (DF B N w) w w') : PoolAt w' p d from_ many M :=
  h.keep k fun b hf hb => by
    rcases hf.2 with h6 | ⟨cs, fz, h6⟩
    · omega
    · exact ⟨cs, _, fz, h6, by decide⟩

/-- what lasts through the acts -/
structure Lasts (w : World) (z s d bx log pages from_ version t p batch M : Nat) (lg : Value) : Prop where
  b0 : Boxed w z 31 (.pointer (some ⟨s, 0, none⟩))
  b1 : Boxed w (z + 1) 3 (.int .i64 ((version : Int) + 1))
  row : w.heap[z + 1 + 1]? = some (.cells #[.func (.func 114) #[.pointer (some ⟨p, 0, none⟩)] #[], .func (.func 86) #[.pointer (some ⟨d, 0, none⟩)] #[],
    .func (.func 115) #[] #[.pointer (some ⟨z, 0, none⟩), .pointer (some ⟨z + 1, 0, none⟩)], .func (.func 86) #[.pointer (some ⟨d, 0, none⟩)] #[]] 110 (0, 0))
  st : StoreRaw w s d log pages from_ version (.pointer (some ⟨p, 0, none⟩)) (.pointer (some ⟨t, 0, none⟩)) lg batch
  tr : TreeAt w t p
  po : PoolAt w p d from_ pages M
  dp : DiskP w d bx
  en : EnvN w
theorem Lasts.df {w w' : World} {z s d bx log pages from_ version t p batch M B N : Nat} {lg : Value} (h : Lasts w z s d bx log pages from_ version t p batch M lg) (k : Kp (DF B N w) w w') (hG : 3 < B)
    (nz : N ≤ z) (ns : N ≤ s) (nd : N ≤ d) (nt : N ≤ t) (nM : N ≤ M) : Lasts w' z s d bx log pages from_ version t p batch M lg :=
  ⟨heap_df h.b0 nz (by decide) k, heap_df h.b1 (by omega) (by decide) k, heap_df h.row (by omega) (by decide) k, heap_df h.st ns (by decide) k, heap_df h.tr nt (by decide) k, pool_df h.po nM k, h.dp.df nd k, h.en.df hG k⟩
theorem Lasts.below {w w' : World} {z s d bx log pages from_ version t p batch M : Nat} {lg : Value} (h : Lasts w z s d bx log pages from_ version t p batch M lg) (k : Below w.heap.size w w') : Lasts w' z s d bx log pages from_ version t p batch M lg :=
  ⟨heap_below h.b0 k, heap_below h.b1 k, heap_below h.row k, heap_below h.st k, heap_below h.tr k, h.po.below k, h.dp.below k, h.en.below k⟩

theorem Lasts.fz {w w' : World} {z s d bx log pages from_ version t p batch M : Nat} {lg : Value} (h : Lasts w z s d bx log pages from_ version t p batch M lg) (k : Kp (FZ M w) w w') (hG : 3 < M)
    (po : PoolAt w' p d from_ pages M) : Lasts w' z s d bx log pages from_ version t p batch M lg := by
  have e : ∀ (b : Nat) (cs : Array Value) (t : TypeId) (fz : Nat × Nat), w.heap[b]? = some (.cells cs t fz) → w'.heap[b]? = some (.cells cs t fz) := fun b cs t fz hb => by
    rw [k.block _ (lt_of_heap hb) (by rintro ⟨_, es, ck, h6⟩; rw [hb] at h6; cases h6)]; exact hb
  exact ⟨e _ _ _ _ h.b0, e _ _ _ _ h.b1, e _ _ _ _ h.row, e _ _ _ _ h.st, e _ _ _ _ h.tr, po, e _ _ _ _ h.dp, h.en.keep k (by rintro ⟨h6, _⟩; omega)⟩
theorem Kp.trans'' {w a b : World} {B N M s : Nat} (h : Kp (DF B N w) w a) (k : Kp (FZ M a) a b) : Kp (fun b => DF B N w b ∨ b = s ∨ FZ M w b) w b := by
  refine (h.mono (fun _ hx => .inl hx)).trans' k ?_
  rintro i hi ⟨h1, es, ck, h2⟩
  by_cases hf : DF B N w i
  · exact .inl hf
  · rw [h.block i hi hf] at h2
    exact .inr (.inr ⟨h1, es, ck, h2⟩)

theorem heap_kp {F : Nat → Prop} {w w' : World} {b : Nat} {o : Obj} (h : w.heap[b]? = some o) (k : Kp F w w') (hF : ¬ F b) : w'.heap[b]? = some o := by
  rw [k.block _ (lt_of_heap h) hF]; exact h

set_option maxRecDepth 100000 in
set_option maxHeartbeats 1000000 in
theorem checkpoint_nil (w : World) (s d bx B N secs W log pages from_ batch t p M : Nat) (version : Nat) (lg : Value) (D : Nat → Bytes)
    (hs : StoreRaw w s d log pages from_ version (.pointer (some ⟨p, 0, none⟩)) (.pointer (some ⟨t, 0, none⟩)) lg batch) (ht : TreeAt w t p) (hp : PoolAt w p d from_ pages M)
    (hd : DiskP w d bx) (h : DiskAt w B N bx secs W D) (hE : EnvN w) (hG : 3 < B) (hW : W < 1073741000) (hn : version + 1 ≤ 1099511627776) (h2 : 2 + log ≤ secs) (h1 : 1 ≤ log)
    (hz : ∀ k, k < log → D (2 + k) = zeros) (ns : N ≤ s) (nd : N ≤ d) (nt : N ≤ t) (nM : N ≤ M) (hMs : s < M) :
    Calls Tryz.prog 72 #[.pointer (some ⟨s, 0, none⟩)] w fun e w' =>
      e = .returned .nilIface ∧ ∃ lg', StoreRaw w' s d log pages from_ ((version : Int) + 1) (.pointer (some ⟨p, 0, none⟩)) (.pointer (some ⟨t, 0, none⟩)) lg' batch ∧ TreeAt w' t p ∧ DiskP w' d bx ∧ DiskAt w' B N bx secs 0 (fun i => if i = (version + 1) % 2 then secB (version + 1) 0 else D i) ∧
        Kp (fun b => DF B N w b ∨ b = s ∨ FZ M w b) w w' := by
  have c4 : w.cell? ⟨s, 4, none⟩ = some (.int .i64 (version : Int)) := (hs.cells 4 _ rfl).1
  have hsz := lt_of_heap hs
  go_enter Tryz.func72, Tryz.ntmps72
  go_wp2
  obtain ⟨W0, hW0⟩ : ∃ W0, W0 = ((w.alloc (.cells #[.pointer (some ⟨s, 0, none⟩)] 31)).alloc (.cells #[.int .i64 ((version : Int) + 1)] 3)) := ⟨_, rfl⟩
  rw [← hW0]
  have hb0 : Below w.heap.size w W0 := by
    rw [hW0]; exact (((Below.refl _ _).alloc (by simp) _).alloc (by simp) _)
  have b0 : Boxed W0 w.heap.size 31 (.pointer (some ⟨s, 0, none⟩)) := by rw [hW0]; (unfold Boxed; simp only [heap_alloc_push, Array.getElem?_push, Array.size_push]; repeat (first | rw [if_pos trivial] | rw [if_neg (by omega)] | rw [if_pos (by omega)]))
  have b1 : Boxed W0 (w.heap.size + 1) 3 (.int .i64 ((version : Int) + 1)) := by rw [hW0]; (unfold Boxed; simp only [heap_alloc_push, Array.getElem?_push, Array.size_push]; repeat (first | rw [if_pos trivial] | rw [if_neg (by omega)] | rw [if_pos (by omega)]))
  have hsz0 : W0.heap.size = w.heap.size + 1 + 1 := by rw [hW0]; simp
  have hs0 : StoreRaw W0 s d log pages from_ version (.pointer (some ⟨p, 0, none⟩)) (.pointer (some ⟨t, 0, none⟩)) lg batch := heap_below hs hb0
  obtain ⟨S, hSd⟩ : ∃ S : World → Prop, ∀ w', S w' ↔ (w'.cell? ⟨w.heap.size, 0, none⟩ = some (.pointer (some ⟨s, 0, none⟩)) ∧ w'.cell? ⟨s, 5, none⟩ = some (.pointer (some ⟨p, 0, none⟩)) ∧ w'.cell? ⟨s, 0, none⟩ = some (.pointer (some ⟨d, 0, none⟩))) := ⟨_, fun _ => Iff.rfl⟩
  have hS : S W0.drew := (hSd _).2 ⟨b0.cell, (hs0.cells 5 _ rfl).1, (hs0.cells 0 _ rfl).1⟩
  have hS2 : ∀ o, S (W0.drew.alloc o) := fun o => (hSd _).2 ⟨(b0.alloc o).cell, ((show StoreRaw (W0.alloc o) s d log pages from_ version (.pointer (some ⟨p, 0, none⟩)) (.pointer (some ⟨t, 0, none⟩)) lg batch from heap_below hs0 ((Below.refl _ _).alloc (Nat.le_refl _) o)).cells 5 _ rfl).1, ((show StoreRaw (W0.alloc o) s d log pages from_ version (.pointer (some ⟨p, 0, none⟩)) (.pointer (some ⟨t, 0, none⟩)) lg batch from heap_below hs0 ((Below.refl _ _).alloc (Nat.le_refl _) o)).cells 0 _ rfl).1⟩
  have HSd := Lib.hid hSd
  have HB0 := Lib.hid hb0; have X0 := Lib.hid b0; have X1 := Lib.hid b1; have Hs0 := Lib.hid hs0; have Hsz0 := Lib.hid hsz0
  clear hSd hW0 hb0 b0 b1 hs0 hsz0 c4
  refine wp_region_I (by kernel_rfl) S 99 ?_
  refine wpAnyS_take 0 (v := ?_) rfl (by kernel_rfl) (by kernel_rfl) (by kernel_rfl) rfl (fun _ _ _ h => h) (.inl ⟨rfl, fun w' hS' => ?_⟩) hS ?_; rotate_left 1; focus (have hf := (HSd.out w').1 hS'; (repeat (obtain ⟨_, hf⟩ := hf)); go_simp; (try rfl))
  refine wpAnyS_take 1 (v := ?_) rfl (by kernel_rfl) (by kernel_rfl) (by kernel_rfl) rfl (fun _ _ _ h => h) (.inl ⟨rfl, fun w' hS' => ?_⟩) hS ?_; rotate_left 1; focus (have hf := (HSd.out w').1 hS'; (repeat (obtain ⟨_, hf⟩ := hf)); go_simp; (try rfl))
  refine wpAnyS_take 2 (v := ?_) rfl (by kernel_rfl) (by kernel_rfl) (by kernel_rfl) rfl (fun _ _ _ h => h) (.inl ⟨rfl, fun w' hS' => ?_⟩) hS ?_; rotate_left 1; focus (have hf := (HSd.out w').1 hS'; (repeat (obtain ⟨_, hf⟩ := hf)); go_simp; (try rfl))
  refine wpAnyS_take 3 (v := ?_) rfl (by kernel_rfl) (by kernel_rfl) (by kernel_rfl) rfl (fun _ _ _ h => h) (.inl ⟨rfl, fun w' hS' => ?_⟩) hS ?_; rotate_left 1; focus (have hf := (HSd.out w').1 hS'; (repeat (obtain ⟨_, hf⟩ := hf)); go_simp; (try rfl))
  refine wpAnyS_take 4 (v := ?_) rfl (by kernel_rfl) (by kernel_rfl) (by kernel_rfl) rfl (fun _ _ _ h => h) (.inl ⟨rfl, fun w' hS' => ?_⟩) hS ?_; rotate_left 1; focus (have hf := (HSd.out w').1 hS'; (repeat (obtain ⟨_, hf⟩ := hf)); go_simp; (try rfl))
  refine wpAnyS_take 5 (v := ?_) rfl (by kernel_rfl) (by kernel_rfl) (by kernel_rfl) rfl (fun _ _ _ h => h) (.inl ⟨rfl, fun w' hS' => ?_⟩) hS ?_; rotate_left 1; focus (have hf := (HSd.out w').1 hS'; (repeat (obtain ⟨_, hf⟩ := hf)); go_simp; (try rfl))
  refine wpAnyS_take 6 (v := ?_) rfl (by kernel_rfl) (by kernel_rfl) (by kernel_rfl) rfl (fun _ _ _ h => h) (.inl ⟨rfl, fun w' hS' => ?_⟩) hS ?_; rotate_left 1; focus (have hf := (HSd.out w').1 hS'; (repeat (obtain ⟨_, hf⟩ := hf)); go_simp; (try rfl))
  refine wpAnyS_take 7 (v := ?_) rfl (by kernel_rfl) (by kernel_rfl) (by kernel_rfl) rfl (fun _ _ _ h => h) (.inl ⟨rfl, fun w' hS' => ?_⟩) hS ?_; rotate_left 1; focus (have hf := (HSd.out w').1 hS'; (repeat (obtain ⟨_, hf⟩ := hf)); go_simp; (try rfl))
  refine wpAnyS_take 8 (v := ?_) rfl (by kernel_rfl) (by kernel_rfl) (by kernel_rfl) rfl (fun _ _ _ h => h) (.inl ⟨rfl, fun w' hS' => ?_⟩) hS ?_; rotate_left 1; focus (have hf := (HSd.out w').1 hS'; (repeat (obtain ⟨_, hf⟩ := hf)); go_simp; (try rfl))
  refine wpAnyS_take 9 (v := ?_) rfl (by kernel_rfl) (by kernel_rfl) (by kernel_rfl) rfl (fun _ _ _ h => h) (.inl ⟨rfl, fun w' hS' => ?_⟩) hS ?_; rotate_left 1; focus (have hf := (HSd.out w').1 hS'; (repeat (obtain ⟨_, hf⟩ := hf)); go_simp; (try rfl))
  refine wpAnyS_take 10 (v := ?_) rfl (by kernel_rfl) (by kernel_rfl) (by kernel_rfl) rfl (fun _ _ _ h => h) (.inl ⟨rfl, fun w' hS' => ?_⟩) hS ?_; rotate_left 1; focus (have hf := (HSd.out w').1 hS'; (repeat (obtain ⟨_, hf⟩ := hf)); go_simp; (try rfl))
  refine wpAnyS_take 11 (v := ?_) rfl (by kernel_rfl) (by kernel_rfl) (by kernel_rfl) rfl (fun _ _ _ h => h) (.inl ⟨rfl, fun w' hS' => ?_⟩) hS ?_; rotate_left 1; focus (have hf := (HSd.out w').1 hS'; (repeat (obtain ⟨_, hf⟩ := hf)); go_simp; (try rfl))
  refine wpAnyS_take 12 (v := ?_) rfl (by kernel_rfl) (by kernel_rfl) (by kernel_rfl) rfl (fun _ _ _ h => h) (.inl ⟨rfl, fun w' hS' => ?_⟩) hS ?_; rotate_left 1; focus (have hf := (HSd.out w').1 hS'; (repeat (obtain ⟨_, hf⟩ := hf)); go_simp; (try rfl))
  refine wpAnyS_take 13 (v := ?_) rfl (by kernel_rfl) (by kernel_rfl) (by kernel_rfl) rfl (fun _ _ _ h => h) (.inl ⟨rfl, fun w' hS' => ?_⟩) hS ?_; rotate_left 1; focus (have hf := (HSd.out w').1 hS'; (repeat (obtain ⟨_, hf⟩ := hf)); go_simp; (try rfl))
  refine wpAnyS_take 14 (v := ?_) rfl (by kernel_rfl) (by kernel_rfl) (by kernel_rfl) rfl (fun _ _ _ h => h) (.inl ⟨rfl, fun w' hS' => ?_⟩) hS ?_; rotate_left 1; focus (have hf := (HSd.out w').1 hS'; (repeat (obtain ⟨_, hf⟩ := hf)); go_simp; (try rfl))
  refine wpAnyS_take 15 (v := ?_) rfl (by kernel_rfl) (by kernel_rfl) (by kernel_rfl) rfl (fun _ _ _ h => h) (.inl ⟨rfl, fun w' hS' => ?_⟩) hS ?_; rotate_left 1; focus (have hf := (HSd.out w').1 hS'; (repeat (obtain ⟨_, hf⟩ := hf)); go_simp; (try rfl))
  refine wpAnyS_take 18 (v := ?_) rfl (by kernel_rfl) (by kernel_rfl) (by kernel_rfl) rfl (fun _ _ _ h => h) (.inl ⟨rfl, fun w' hS' => ?_⟩) hS ?_; rotate_left 1; focus (have hf := (HSd.out w').1 hS'; (repeat (obtain ⟨_, hf⟩ := hf)); go_simp; (try rfl))
  refine wpAnyI_one 16 (by kernel_rfl) (wpOp_step rfl (fun K hK => ?_)); go_simp
  refine hK _ _ ⟨fun _ => hS2 _, ?_⟩
  clear hK K
  have hS := hS2 (.cells #[.func (.func 114) #[.pointer (some ⟨p, 0, none⟩)] #[], .func (.func 86) #[.pointer (some ⟨d, 0, none⟩)] #[],
    .func (.func 115) #[] #[.pointer (some ⟨w.heap.size, 0, none⟩), .pointer (some ⟨w.heap.size + 1, 0, none⟩)], .func (.func 86) #[.pointer (some ⟨d, 0, none⟩)] #[]] 110 (0, 0))
  refine wpAnyS_take 17 (v := ?_) rfl (by kernel_rfl) (by kernel_rfl) (by kernel_rfl) rfl (fun _ _ _ h => h) (.inl ⟨rfl, fun w' hS' => ?_⟩) hS ?_; rotate_left 1; focus (have hf := (HSd.out w').1 hS'; (repeat (obtain ⟨_, hf⟩ := hf)); go_simp; (try rfl))
  refine wpAnyI_done (by kernel_rfl) ?_ _
  go_simp
  rw [Hsz0.out]
  generalize hW1 : World.drew (World.alloc W0 _) = W1
  have hb1 : Below w.heap.size w W1 := by
    rw [← hW1]; exact (HB0.out.alloc (by have := HB0.out.size; omega) _).drew
  have L0 : Lasts W1 w.heap.size s d bx log pages from_ version t p batch M lg := by
    refine ⟨?_, ?_, ?_, heap_below hs hb1, heap_below ht hb1, hp.below hb1, hd.below hb1, hE.below hb1⟩
    · rw [← hW1]; exact X0.out.alloc _
    · rw [← hW1]; exact X1.out.alloc _
    · rw [← hW1]; have := World.alloc_heap_new W0 (.cells #[.func (.func 114) #[.pointer (some ⟨p, 0, none⟩)] #[], .func (.func 86) #[.pointer (some ⟨d, 0, none⟩)] #[],
        .func (.func 115) #[] #[.pointer (some ⟨w.heap.size, 0, none⟩), .pointer (some ⟨w.heap.size + 1, 0, none⟩)], .func (.func 86) #[.pointer (some ⟨d, 0, none⟩)] #[]] 110 (0, 0))
      rw [Hsz0.out] at this; exact this
  have A0 := h.below hb1
  have nz : N ≤ w.heap.size := by omega
  have nB := Nat.lt_of_le_of_lt h.lo h.hi
  have L0 := Lib.hid L0; have A0 := Lib.hid A0; have Hb1 := Lib.hid hb1
  clear hW1 hs ht hp hd h hE hb1 HB0 X0 X1 Hs0 Hsz0 hS hS2 HSd
  obtain ⟨D', hD'⟩ : ∃ D' : Nat → Bytes, D' = fun i => if i = (version + 1) % 2 then secB (version + 1) 0 else D i := ⟨_, rfl⟩
  have HD := Lib.hid hD'
  clear hD'
  go_wp2
  go_loopw [33] (fun i wr => Lasts wr w.heap.size s d bx log pages from_ version t p batch M lg ∧ Kp (DF B N w) w wr ∧ ((i = .int .i64 0 ∧ DiskAt wr B N bx secs W D) ∨ (i = .int .i64 1 ∧ DiskAt wr B N bx secs W D) ∨
    (i = .int .i64 2 ∧ DiskAt wr B N bx secs 0 D) ∨ (i = .int .i64 3 ∧ DiskAt wr B N bx secs 1 D') ∨ (i = .int .i64 4 ∧ DiskAt wr B N bx secs 0 D'))) (fun i _ => 4 - (intOf i).toNat)
  case atStart => exact ⟨L0.out, Kp.of_below Hb1.out _, .inl ⟨rfl, A0.out⟩⟩
  case round =>
    obtain ⟨HL, hkp, ⟨rfl, hat⟩ | ⟨rfl, hat⟩ | ⟨rfl, hat⟩ | ⟨rfl, hat⟩ | ⟨rfl, hat⟩⟩ := hrel
    · have hr : wr.cell? ⟨w.heap.size + 1 + 1, 0, none⟩ = some (.func (.func 114) #[.pointer (some ⟨p, 0, none⟩)] #[]) := by rw [World.cell?]; simp only [HL.row]; rfl
      have cF := Flush_none wr p d from_ pages M HL.po
      have HLh := Lib.hid HL; have Hk := Lib.hid hkp; have Ha := Lib.hid hat
      clear HL hkp hat L0 A0
      go_wp2_with first | (go_at_call 114; refine cF.mono ?_; rintro e w2 ⟨rfl, hb2⟩) | fail
      go_roundw
      case rel => exact ⟨HLh.out.below hb2, DF.trans Hk.out (Kp.of_below hb2 _), .inr (.inl ⟨rfl, Ha.out.below hb2⟩)⟩
      case measure => simp [intOf]
    · have hr : wr.cell? ⟨w.heap.size + 1 + 1, 1, none⟩ = some (.func (.func 86) #[.pointer (some ⟨d, 0, none⟩)] #[]) := by rw [World.cell?]; simp only [HL.row]; rfl
      have cF := Sync_disk wr d bx B N secs W D HL.dp hat (by omega)
      have HLh := Lib.hid HL; have Hk := Lib.hid hkp
      clear HL hkp hat L0 A0
      go_wp2_with first | (go_at_call 86; refine cF.mono ?_; rintro e w2 ⟨rfl, ha2, hk2⟩) | fail
      go_roundw
      case rel => exact ⟨HLh.out.df hk2 hG nz ns nd nt nM, DF.trans Hk.out hk2, .inr (.inr (.inl ⟨rfl, ha2⟩))⟩
      case measure => simp [intOf]
    · have hr : wr.cell? ⟨w.heap.size + 1 + 1, 2, none⟩ = some (.func (.func 115) #[] #[.pointer (some ⟨w.heap.size, 0, none⟩), .pointer (some ⟨w.heap.size + 1, 0, none⟩)]) := by rw [World.cell?]; simp only [HL.row]; rfl
      have cF := check1 wr w.heap.size (w.heap.size + 1) s d bx B N secs 0 log pages from_ batch t p (version + 1) version _ lg D HL.b0 HL.b1 HL.st HL.tr HL.dp hat HL.en (by omega) (by unfold maxLen; omega) (by omega) nz (by omega) ns
      rw [← HD.out] at cF
      have HLh := Lib.hid HL; have Hk := Lib.hid hkp
      clear HL hkp hat L0 A0
      go_wp2_with first | (go_at_call 115; refine cF.mono ?_; rintro e w2 ⟨rfl, ha2, hk2⟩) | fail
      go_roundw
      case rel => exact ⟨HLh.out.df hk2 hG nz ns nd nt nM, DF.trans Hk.out hk2, .inr (.inr (.inr (.inl ⟨rfl, ha2⟩)))⟩
      case measure => simp [intOf]
    · have hr : wr.cell? ⟨w.heap.size + 1 + 1, 3, none⟩ = some (.func (.func 86) #[.pointer (some ⟨d, 0, none⟩)] #[]) := by rw [World.cell?]; simp only [HL.row]; rfl
      have cF := Sync_disk wr d bx B N secs 1 D' HL.dp hat (by omega)
      have HLh := Lib.hid HL; have Hk := Lib.hid hkp
      clear HL hkp hat L0 A0
      go_wp2_with first | (go_at_call 86; refine cF.mono ?_; rintro e w2 ⟨rfl, ha2, hk2⟩) | fail
      go_roundw
      case rel => exact ⟨HLh.out.df hk2 hG nz ns nd nt nM, DF.trans Hk.out hk2, .inr (.inr (.inr (.inr ⟨rfl, ha2⟩)))⟩
      case measure => simp [intOf]
    · have cB := HL.b0.cell
      have lB := HL.b0.lt
      have cP : wr.cell? ⟨s, 5, none⟩ = some (.pointer (some ⟨p, 0, none⟩)) := (HL.st.cells 5 _ rfl).1
      have lS := lt_of_heap HL.st
      have cF := Freeze_none wr p d from_ pages M HL.po
      have HLh := Lib.hid HL; have Hk := Lib.hid hkp; have Ha := Lib.hid hat
      clear HL hkp hat L0 A0
      go_wp2_with first | (go_at_call 117; refine cF.mono ?_; rintro e w2 ⟨rfl, hp2, hk2⟩) | fail
      have L2 : Lasts w2 w.heap.size s d bx log pages from_ version t p batch M lg := HLh.out.fz hk2 (by omega) hp2
      have A2 : DiskAt w2 B N bx secs 0 D' := Ha.out.keep hk2 (fun b hb => ⟨by have := hb.1; omega, fun cs t fz hh => by obtain ⟨es, ck, h6⟩ := hb.2; rw [hh] at h6; cases h6⟩)
      have K2 : Kp (fun b => DF B N w b ∨ b = s ∨ FZ M w b) w w2 := Hk.out.trans'' hk2
      have cO := walOpen_zeros w2.drew d bx B N secs 0 2 log (version + 1) D' L2.dp (A2.below (Below.refl _ _).drew) h1 h2 L2.en (by omega) hn (fun k hk => by rw [HD.out]; show (if 2 + k = (version + 1) % 2 then _ else D (2 + k)) = zeros; rw [if_neg (by omega)]; exact hz k hk)
      obtain ⟨S, hSd⟩ : ∃ S : World → Prop, ∀ w', S w' ↔ (w'.cell? ⟨w.heap.size, 0, none⟩ = some (.pointer (some ⟨s, 0, none⟩)) ∧ w'.cell? ⟨w.heap.size + 1, 0, none⟩ = some (.int .i64 ((version : Int) + 1)) ∧ w'.cell? ⟨s, 0, none⟩ = some (.pointer (some ⟨d, 0, none⟩)) ∧ w'.cell? ⟨s, 1, none⟩ = some (.int .i64 log)) := ⟨_, fun _ => Iff.rfl⟩
      have mkS : ∀ w', Lasts w' w.heap.size s d bx log pages from_ version t p batch M lg → S w' := fun w' y => (hSd _).2 ⟨y.b0.cell, y.b1.cell, (y.st.cells 0 _ rfl).1, (y.st.cells 1 _ rfl).1⟩
      have hS : S w2.drew := mkS _ (L2.below (Below.refl _ _).drew)
      have HSd := Lib.hid hSd
      have L2 := Lib.hid L2; have A2 := Lib.hid A2; have K2 := Lib.hid K2
      clear hSd hp2 hk2
      refine wp_region_I (by kernel_rfl) S 99 ?_
      refine wpAnyS_take 0 (v := ?_) rfl (by kernel_rfl) (by kernel_rfl) (by kernel_rfl) rfl (fun _ _ _ h => h) (.inl ⟨rfl, fun w' hS' => ?_⟩) hS ?_; rotate_left 1; focus (have hf := (HSd.out w').1 hS'; (repeat (obtain ⟨_, hf⟩ := hf)); go_simp; (try rfl))
      refine wpAnyS_take 1 (v := ?_) rfl (by kernel_rfl) (by kernel_rfl) (by kernel_rfl) rfl (fun _ _ _ h => h) (.inl ⟨rfl, fun w' hS' => ?_⟩) hS ?_; rotate_left 1; focus (have hf := (HSd.out w').1 hS'; (repeat (obtain ⟨_, hf⟩ := hf)); go_simp; (try rfl))
      refine wpAnyS_take 2 (v := ?_) rfl (by kernel_rfl) (by kernel_rfl) (by kernel_rfl) rfl (fun _ _ _ h => h) (.inl ⟨rfl, fun w' hS' => ?_⟩) hS ?_; rotate_left 1; focus (have hf := (HSd.out w').1 hS'; (repeat (obtain ⟨_, hf⟩ := hf)); go_simp; (try rfl))
      refine wpAnyS_take 3 (v := ?_) rfl (by kernel_rfl) (by kernel_rfl) (by kernel_rfl) rfl (fun _ _ _ h => h) (.inl ⟨rfl, fun w' hS' => ?_⟩) hS ?_; rotate_left 1; focus (have hf := (HSd.out w').1 hS'; (repeat (obtain ⟨_, hf⟩ := hf)); go_simp; (try rfl))
      refine wpAnyS_take 4 (v := ?_) rfl (by kernel_rfl) (by kernel_rfl) (by kernel_rfl) rfl (fun _ _ _ h => h) (.inl ⟨rfl, fun w' hS' => ?_⟩) hS ?_; rotate_left 1; focus (have hf := (HSd.out w').1 hS'; (repeat (obtain ⟨_, hf⟩ := hf)); go_simp; (try rfl))
      refine wpAnyS_take 5 (v := ?_) rfl (by kernel_rfl) (by kernel_rfl) (by kernel_rfl) rfl (fun _ _ _ h => h) (.inl ⟨rfl, fun w' hS' => ?_⟩) hS ?_; rotate_left 1; focus (have hf := (HSd.out w').1 hS'; (repeat (obtain ⟨_, hf⟩ := hf)); go_simp; (try rfl))
      refine wpAnyS_take 6 (v := ?_) rfl (by kernel_rfl) (by kernel_rfl) (by kernel_rfl) rfl (fun _ _ _ h => h) (.inl ⟨rfl, fun w' hS' => ?_⟩) hS ?_; rotate_left 1; focus (have hf := (HSd.out w').1 hS'; (repeat (obtain ⟨_, hf⟩ := hf)); go_simp; (try rfl))
      refine wpAnyS_take 7 (v := ?_) rfl (by kernel_rfl) (by kernel_rfl) (by kernel_rfl) rfl (fun _ _ _ h => h) (.inl ⟨rfl, fun w' hS' => ?_⟩) hS ?_; rotate_left 1; focus (have hf := (HSd.out w').1 hS'; (repeat (obtain ⟨_, hf⟩ := hf)); go_simp; (try rfl))
      refine wpAnyS_take 8 (v := ?_) rfl (by kernel_rfl) (by kernel_rfl) (by kernel_rfl) rfl (fun _ _ _ h => h) (.inl ⟨rfl, fun w' hS' => ?_⟩) hS ?_; rotate_left 1; focus (have hf := (HSd.out w').1 hS'; (repeat (obtain ⟨_, hf⟩ := hf)); go_simp; (try rfl))
      refine wpAnyS_take 9 (v := ?_) rfl (by kernel_rfl) (by kernel_rfl) (by kernel_rfl) rfl (fun _ _ _ h => h) (.inl ⟨rfl, fun w' hS' => ?_⟩) hS ?_; rotate_left 1; focus (have hf := (HSd.out w').1 hS'; (repeat (obtain ⟨_, hf⟩ := hf)); go_simp; (try rfl))
      refine wpAnyI_one 10 (by kernel_rfl) (wpOp_step rfl (fun K hK => ?_)); go_simp
      refine cO.mono ?_
      rintro e w3 ⟨⟨lg', rfl⟩, hb3⟩
      have hb3' : Below w2.heap.size w2 w3 := (Below.refl _ _).drew.trans hb3
      have L3 := L2.out.below hb3'
      have hS := mkS _ L3
      refine hK _ _ ⟨fun _ => hS, ?_⟩
      clear hK K
      refine wpAnyS_take 11 (v := ?_) rfl (by kernel_rfl) (by kernel_rfl) (by kernel_rfl) rfl (fun _ _ _ h => h) (.inl ⟨rfl, fun w' hS' => ?_⟩) hS ?_; rotate_left 1; focus (have hf := (HSd.out w').1 hS'; (repeat (obtain ⟨_, hf⟩ := hf)); go_simp; (try rfl))
      refine wpAnyS_take 12 (v := ?_) rfl (by kernel_rfl) (by kernel_rfl) (by kernel_rfl) rfl (fun _ _ _ h => h) (.inl ⟨rfl, fun w' hS' => ?_⟩) hS ?_; rotate_left 1; focus (have hf := (HSd.out w').1 hS'; (repeat (obtain ⟨_, hf⟩ := hf)); go_simp; (try rfl))
      refine wpAnyS_take 13 (v := ?_) rfl (by kernel_rfl) (by kernel_rfl) (by kernel_rfl) rfl (fun _ _ _ h => h) (.inl ⟨rfl, fun w' hS' => ?_⟩) hS ?_; rotate_left 1; focus (have hf := (HSd.out w').1 hS'; (repeat (obtain ⟨_, hf⟩ := hf)); go_simp; (try rfl))
      refine wpAnyS_take 14 (v := ?_) rfl (by kernel_rfl) (by kernel_rfl) (by kernel_rfl) rfl (fun _ _ _ h => h) (.inl ⟨rfl, fun w' hS' => ?_⟩) hS ?_; rotate_left 1; focus (have hf := (HSd.out w').1 hS'; (repeat (obtain ⟨_, hf⟩ := hf)); go_simp; (try rfl))
      refine wpAnyS_take 15 (v := ?_) rfl (by kernel_rfl) (by kernel_rfl) (by kernel_rfl) rfl (fun _ _ _ h => h) (.inl ⟨rfl, fun w' hS' => ?_⟩) hS ?_; rotate_left 1; focus (have hf := (HSd.out w').1 hS'; (repeat (obtain ⟨_, hf⟩ := hf)); go_simp; (try rfl))
      refine wpAnyS_take 16 (v := ?_) rfl (by kernel_rfl) (by kernel_rfl) (by kernel_rfl) rfl (fun _ _ _ h => h) (.inl ⟨rfl, fun w' hS' => ?_⟩) hS ?_; rotate_left 1; focus (have hf := (HSd.out w').1 hS'; (repeat (obtain ⟨_, hf⟩ := hf)); go_simp; (try rfl))
      refine wpAnyS_take 17 (v := ?_) rfl (by kernel_rfl) (by kernel_rfl) (by kernel_rfl) rfl (fun _ _ _ h => h) (.inl ⟨rfl, fun w' hS' => ?_⟩) hS ?_; rotate_left 1; focus (have hf := (HSd.out w').1 hS'; (repeat (obtain ⟨_, hf⟩ := hf)); go_simp; (try rfl))
      refine wpAnyI_done (by kernel_rfl) ?_ _
      go_simp
      have L3 := Lib.hid L3; have Hb3 := Lib.hid hb3'
      clear hS HSd mkS cO hb3 hb3'
      go_wp2
      have hst := L3.out.st
      obtain ⟨g4, f4⟩ := hst.cells 4 _ rfl
      obtain ⟨g7, f7⟩ := hst.cells 7 _ rfl
      have gz := L3.out.b0.cell
      have gz1 := L3.out.b1.cell
      have hsz3 := lt_of_heap hst
      have fin1 : StoreRaw (w3.setCell ⟨s, 4, none⟩ (.int .i64 ((version : Int) + 1))) s d log pages from_ ((version : Int) + 1) (.pointer (some ⟨p, 0, none⟩)) (.pointer (some ⟨t, 0, none⟩)) lg batch := StoreRaw.set 4 _ hst rfl
      have fin2 : StoreRaw ((w3.setCell ⟨s, 4, none⟩ (.int .i64 ((version : Int) + 1))).setCell ⟨s, 7, none⟩ (.pointer (some ⟨lg', 0, none⟩))) s d log pages from_ ((version : Int) + 1) (.pointer (some ⟨p, 0, none⟩)) (.pointer (some ⟨t, 0, none⟩)) (.pointer (some ⟨lg', 0, none⟩)) batch := StoreRaw.set 7 _ fin1 rfl
      have kfin : Kp (fun b => b = s) w3 ((w3.setCell ⟨s, 4, none⟩ (.int .i64 ((version : Int) + 1))).setCell ⟨s, 7, none⟩ (.pointer (some ⟨lg', 0, none⟩))).drew := (((Kp.refl (· = s) w3).setCell 4 _ rfl).setCell 7 _ rfl).trans (Kp.of_below (Below.refl _ _).drew _)
      have sne : s ≠ w.heap.size ∧ s ≠ w.heap.size + 1 := by omega
      obtain ⟨S, hSd⟩ : ∃ S : World → Prop, ∀ w', S w' ↔ (w'.cell? ⟨w.heap.size, 0, none⟩ = some (.pointer (some ⟨s, 0, none⟩)) ∧ w'.cell? ⟨w.heap.size + 1, 0, none⟩ = some (.int .i64 ((version : Int) + 1))) := ⟨_, fun _ => Iff.rfl⟩
      have hS : S w3.drew := (hSd _).2 ⟨gz, gz1⟩
      have k6 : ∀ (u : World) (i : Nat) (v : Value), S u → S (u.setCell ⟨s, i, none⟩ v) := fun u i v hu => by
        obtain ⟨a1, a2⟩ := (hSd _).1 hu
        refine (hSd _).2 ⟨?_, ?_⟩
        · rw [← a1]; exact World.cell?_of_block (Below.heap_setCell u ⟨s, i, none⟩ v _ (Ne.symm sne.1))
        · rw [← a2]; exact World.cell?_of_block (Below.heap_setCell u ⟨s, i, none⟩ v _ (Ne.symm sne.2))
      have hS2 : S (w3.setCell ⟨s, 4, none⟩ (.int .i64 ((version : Int) + 1))).drew := k6 w3.drew 4 _ hS
      have hS3 : S ((w3.setCell ⟨s, 4, none⟩ (.int .i64 ((version : Int) + 1))).setCell ⟨s, 7, none⟩ (.pointer (some ⟨lg', 0, none⟩))).drew := k6 _ 7 _ hS2
      have HSd := Lib.hid hSd
      have F2 := Lib.hid fin2; have KF := Lib.hid kfin
      clear hSd fin1 fin2 kfin k6 hst gz gz1 sne
      refine wp_region_I (by kernel_rfl) S 99 ?_
      refine wpAnyS_take 0 (v := ?_) rfl (by kernel_rfl) (by kernel_rfl) (by kernel_rfl) rfl (fun _ _ _ h => h) (.inl ⟨rfl, fun w' hS' => ?_⟩) hS ?_; rotate_left 1; focus (have hf := (HSd.out w').1 hS'; (repeat (obtain ⟨_, hf⟩ := hf)); go_simp; (try rfl))
      refine wpAnyS_take 1 (v := ?_) rfl (by kernel_rfl) (by kernel_rfl) (by kernel_rfl) rfl (fun _ _ _ h => h) (.inl ⟨rfl, fun w' hS' => ?_⟩) hS ?_; rotate_left 1; focus (have hf := (HSd.out w').1 hS'; (repeat (obtain ⟨_, hf⟩ := hf)); go_simp; (try rfl))
      refine wpAnyS_take 2 (v := ?_) rfl (by kernel_rfl) (by kernel_rfl) (by kernel_rfl) rfl (fun _ _ _ h => h) (.inl ⟨rfl, fun w' hS' => ?_⟩) hS ?_; rotate_left 1; focus (have hf := (HSd.out w').1 hS'; (repeat (obtain ⟨_, hf⟩ := hf)); go_simp; (try rfl))
      refine wpAnyS_take 3 (v := ?_) rfl (by kernel_rfl) (by kernel_rfl) (by kernel_rfl) rfl (fun _ _ _ h => h) (.inl ⟨rfl, fun w' hS' => ?_⟩) hS ?_; rotate_left 1; focus (have hf := (HSd.out w').1 hS'; (repeat (obtain ⟨_, hf⟩ := hf)); go_simp; (try rfl))
      refine wpAnyS_take 4 (v := ?_) rfl (by kernel_rfl) (by kernel_rfl) (by kernel_rfl) rfl (fun _ _ _ h => h) (.inl ⟨rfl, fun w' hS' => ?_⟩) hS ?_; rotate_left 1; focus (have hf := (HSd.out w').1 hS'; (repeat (obtain ⟨_, hf⟩ := hf)); go_simp; (try rfl))
      refine wpAnyS_take 5 (v := ?_) rfl (by kernel_rfl) (by kernel_rfl) (by kernel_rfl) rfl (fun _ _ _ h => h) (.inl ⟨rfl, fun w' hS' => ?_⟩) hS ?_; rotate_left 1; focus (have hf := (HSd.out w').1 hS'; (repeat (obtain ⟨_, hf⟩ := hf)); go_simp; (try rfl))
      refine wpAnyI_one 6 (by kernel_rfl) (wpOp_step rfl (fun K hK => ?_)); go_simp
      refine hK _ _ ⟨fun _ => hS2, ?_⟩
      clear hK K
      have hS := hS2
      refine wpAnyS_take 7 (v := ?_) rfl (by kernel_rfl) (by kernel_rfl) (by kernel_rfl) rfl (fun _ _ _ h => h) (.inl ⟨rfl, fun w' hS' => ?_⟩) hS ?_; rotate_left 1; focus (have hf := (HSd.out w').1 hS'; (repeat (obtain ⟨_, hf⟩ := hf)); go_simp; (try rfl))
      refine wpAnyS_take 8 (v := ?_) rfl (by kernel_rfl) (by kernel_rfl) (by kernel_rfl) rfl (fun _ _ _ h => h) (.inl ⟨rfl, fun w' hS' => ?_⟩) hS ?_; rotate_left 1; focus (have hf := (HSd.out w').1 hS'; (repeat (obtain ⟨_, hf⟩ := hf)); go_simp; (try rfl))
      refine wpAnyI_one 9 (by kernel_rfl) (wpOp_step rfl (fun K hK => ?_)); go_simp
      refine hK _ _ ⟨fun _ => hS3, ?_⟩
      clear hK K
      refine wpAnyI_done (by kernel_rfl) ?_ _
      go_simp
      clear hS hS2 hS3 HSd
      go_wp2
      go_ret
      refine ⟨rfl, .pointer (some ⟨lg', 0, none⟩), F2.out, ?_, ?_, ?_, ?_⟩
      · exact heap_kp L3.out.tr KF.out (by rintro rfl; have := L3.out.st; have h9 := L3.out.tr; unfold StoreRaw at this; unfold TreeAt at h9; rw [this] at h9; cases h9)
      · exact L3.out.dp.keep KF.out (by rintro rfl; have := L3.out.st; have h9 := L3.out.dp; unfold StoreRaw at this; unfold DiskP at h9; rw [this] at h9; cases h9)
      · rw [← HD.out]; exact (A2.out.below Hb3.out).keep KF.out (fun b hb => ⟨by rw [hb]; exact ns, fun cs t fz hh => by rw [hb] at hh; have := L3.out.st; unfold StoreRaw at this; rw [this] at hh; cases hh; decide⟩)
      · exact (K2.out.trans (Kp.of_below Hb3.out _)).trans' KF.out (fun i _ hi => .inr (.inl hi))
end Go.Proofs.YtmbfenkmabdokaaGreatDoor
