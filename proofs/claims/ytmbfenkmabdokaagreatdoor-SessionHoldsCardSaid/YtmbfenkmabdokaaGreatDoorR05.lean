/- Parts of the proof: Raise. -/
import Derived.Test.YtmbfenkmabdokaaGreatDoorR04
set_option linter.all false
namespace Go.Proofs.YtmbfenkmabdokaaGreatDoor
open Go.RowKit Go.Mp

/-- a store's block -/
def storeCells (d log pages from_ : Nat) (version : Int) (pool tree lg : Value) (batch : Nat) : Array Value :=
  #[.pointer (some ⟨d, 0, none⟩), .int .i64 log, .int .i64 pages, .int .i64 from_, .int .i64 version, pool, tree, lg, .int .i64 0, .map (some batch), .bool false]
def StoreRaw (w : World) (s d log pages from_ : Nat) (version : Int) (pool tree lg : Value) (batch : Nat) : Prop :=
  w.heap[s]? = some (.cells (storeCells d log pages from_ version pool tree lg batch) 106 (0, 0))

theorem StoreRaw.cells {w : World} {s d log pages from_ batch : Nat} {version : Int} {pool tree lg : Value} (h : StoreRaw w s d log pages from_ version pool tree lg batch) (i : Nat) (v : Value) (hv : (storeCells d log pages from_ version pool tree lg batch)[i]? = some v) :
    w.cell? ⟨s, i, none⟩ = some v ∧ w.frozen? ⟨s, i, none⟩ = false := by
  unfold StoreRaw at h
  constructor
  · rw [World.cell?]; simp only [h]; exact hv
  · simp [World.frozen?, h]

theorem StoreRaw.set {w : World} {s : Nat} {a b : Array Value} (i : Nat) (v : Value) (h : w.heap[s]? = some (.cells a 106 (0, 0))) (hab : a.setIfInBounds i v = b) :
    (w.setCell ⟨s, i, none⟩ v).heap[s]? = some (.cells b 106 (0, 0)) := by
  rw [setCell_eq_setRow w s i _ _ _ _ h, hab]
  exact setRow_heap w s _ _ _ _ h
theorem Kp.setCell {w w' : World} {F : Nat → Prop} (h : Kp F w w') {s : Nat} (i : Nat) (v : Value) (hF : F s) : Kp F w (w'.setCell ⟨s, i, none⟩ v) :=
  ⟨h.os, h.tape, h.output, by simpa using h.size, fun k hk hn => (Below.heap_setCell w' ⟨s, i, none⟩ v k (fun e => hn (by rw [e]; exact hF))).trans (h.block k hk hn)⟩

/-- a disk is kept where what turns is none of its -/
theorem DiskAt.keep {w w' : World} {B N bx many W : Nat} {D : Nat → Bytes} {F : Nat → Prop} (h : DiskAt w B N bx many W D) (k : Kp F w w')
    (hF : ∀ b, F b → N ≤ b ∧ ∀ cs t fz, w.heap[b]? = some (Obj.cells cs t fz) → t ≠ 206 ∧ t ≠ 5) : DiskAt w' B N bx many W D := by
  obtain ⟨h1, h2, h0, sm, nm, wv, safe, now, ws, h3, h4, h5, h6, ⟨e1, c1, h7⟩, ⟨e2, c2, h8⟩, h9, h10, h11, h12⟩ := h
  have kN : ∀ b, b < N → b < w.heap.size → w'.heap[b]? = w.heap[b]? := fun b hb hl => k.block b hl (fun hf => by have := (hF b hf).1; omega)
  have kU : ∀ (b : Nat) (cs : Array Value) (fz : Nat × Nat), w.heap[b]? = some (Obj.cells cs 5 fz) → w'.heap[b]? = w.heap[b]? := fun b cs fz hh => k.block b (lt_of_heap hh) (fun hf => ((hF b hf).2 cs _ fz hh).2 rfl)
  refine ⟨h1, h2, h0, sm, nm, wv, safe, now, ws, by rw [kN _ h2 (lt_of_heap h3)]; exact h3, h4, h5, h6, Mp.Is.keep ⟨e1, c1, h7⟩ (kN _ h4.2 (lt_of_heap h7.block)), Mp.Is.keep ⟨e2, c2, h8⟩ (kN _ h5.2 (lt_of_heap h8.block)),
    ⟨h9.1, ?_⟩, h10, h11, fun i hi => ⟨(h12 i hi).1, ?_⟩⟩
  · rcases h9.2 with h | ⟨g, cap, cur, hv, hg, hh, r⟩
    · exact .inl h
    · exact .inr ⟨g, cap, cur, hv, hg, by rw [k.block _ (lt_of_heap hh) (fun hf => ((hF g hf).2 _ _ _ hh).1 rfl)]; exact hh, r⟩
  · have := (h12 i hi).2
    cases hg : Mp.get now (i : Int) with
    | none => rw [hg] at this; exact this
    | some v => rw [hg] at this; exact SecV.keep this kU
theorem DiskP.keep {w w' : World} {d bx : Nat} {F : Nat → Prop} (h : DiskP w d bx) (k : Kp F w w') (hF : ¬ F d) : DiskP w' d bx := by
  unfold DiskP at *; rw [k.block _ (lt_of_heap h) hF]; exact h

/-- a pool without pages; its memory lies from N on -/
def PoolAt (w : World) (p d from_ many N : Nat) : Prop := ∃ tm fm lm, w.heap[p]? = some (.cells #[.pointer (some ⟨d, 0, none⟩), .int .i64 from_, .int .i64 many, .slice none 0 0, .int .i64 0, .map (some tm), .map (some fm), .map (some lm)] 242 (0, 0)) ∧
  Mp.Is w tm ([] : List (Int × Value)) ∧ Mp.Is w fm ([] : List (Int × Value)) ∧ Mp.Is w lm ([] : List (Int × Value)) ∧ N ≤ p ∧ N ≤ tm ∧ N ≤ fm ∧ N ≤ lm ∧ tm ≠ lm
theorem is_heap {α : Type} [Key α] {w : World} {m : Nat} {L : List (α × Value)} (h : Mp.Is w m L) : ∃ es ck, w.heap[m]? = some (.map es ck) := by
  obtain ⟨es, ck, hh⟩ := h; exact ⟨es, ck, hh.block⟩
theorem PoolAt.keep {w w' : World} {p d from_ many N : Nat} {F : Nat → Prop} (h : PoolAt w p d from_ many N) (k : Kp F w w')
    (hF : ∀ b, F b → N ≤ b → ∃ cs t fz, w.heap[b]? = some (Obj.cells cs t fz) ∧ t ≠ 242) : PoolAt w' p d from_ many N := by
  obtain ⟨tm, fm, lm, h1, h2, h3, h4, n0, n1, n2, n3, ne⟩ := h
  have km : ∀ m, N ≤ m → Mp.Is w m ([] : List (Int × Value)) → Mp.Is w' m ([] : List (Int × Value)) := fun m hm hi => by
    obtain ⟨es, ck, hb⟩ := is_heap hi
    refine hi.keep (k.block _ (lt_of_heap hb) (fun hf => ?_))
    obtain ⟨cs, t, fz, hh, _⟩ := hF m hf hm
    rw [hb] at hh; cases hh
  refine ⟨tm, fm, lm, ?_, km _ n1 h2, km _ n2 h3, km _ n3 h4, n0, n1, n2, n3, ne⟩
  rw [k.block _ (lt_of_heap h1) (fun hf => ?_)]
  · exact h1
  · obtain ⟨cs, t, fz, hh, hne⟩ := hF p hf n0
    rw [h1] at hh; cases hh; exact hne rfl
theorem PoolAt.below {w w' : World} {p d from_ many N : Nat} (h : PoolAt w p d from_ many N) (k : Below w.heap.size w w') : PoolAt w' p d from_ many N :=
  h.keep (Kp.of_below k No) (fun _ hf => hf.elim)
theorem poolW_at (w : World) (d from_ many N : Nat) (hN : N ≤ w.heap.size) : PoolAt (poolW w d from_ many) (w.heap.size + 3) d from_ many N := by
  have b3 : Below (w.heap.size + 3) (((w.alloc (.map #[] 0)).alloc (.map #[] 0)).alloc (.map #[] 0)) (poolW w d from_ many) := (Below.refl _ _).alloc (by simp) _
  have b2 : Below (w.heap.size + 2) ((w.alloc (.map #[] 0)).alloc (.map #[] 0)) (poolW w d from_ many) := ((Below.refl _ _).alloc (by simp) _).trans (b3.mono (by omega))
  have b1 : Below (w.heap.size + 1) (w.alloc (.map #[] 0)) (poolW w d from_ many) := ((Below.refl _ _).alloc (by simp) _).trans (b2.mono (by omega))
  have i0 : Mp.Is (w.alloc (.map #[] 0)) w.heap.size ([] : List (Int × Value)) := Is.new w
  have i1 : Mp.Is ((w.alloc (.map #[] 0)).alloc (.map #[] 0)) (w.heap.size + 1) ([] : List (Int × Value)) := by
    have := Is.new (α := Int) (w.alloc (.map #[] 0)); simpa using this
  have i2 : Mp.Is (((w.alloc (.map #[] 0)).alloc (.map #[] 0)).alloc (.map #[] 0)) (w.heap.size + 2) ([] : List (Int × Value)) := by
    have := Is.new (α := Int) ((w.alloc (.map #[] 0)).alloc (.map #[] 0)); simpa using this
  refine ⟨w.heap.size, w.heap.size + 1, w.heap.size + 2, ?_, i0.keep (b1.block _ (by omega)), i1.keep (b2.block _ (by omega)), i2.keep (b3.block _ (by omega)), by omega, hN, by omega, by omega, by omega⟩
  have := heap_alloc_new (((w.alloc (.map #[] 0)).alloc (.map #[] 0)).alloc (.map #[] 0)) (.cells #[.pointer (some ⟨d, 0, none⟩), .int .i64 from_, .int .i64 many, .slice none 0 0, .int .i64 0, .map (some w.heap.size), .map (some (w.heap.size + 1)), .map (some (w.heap.size + 2))] 242)
  simpa [poolW] using this

/-- the world behind the two stores of a round -/
def roundW (w2 : World) (s p : Nat) : World :=
  ((w2.setCell ⟨s, 6, none⟩ (.pointer (some ⟨w2.heap.size, 0, none⟩))).setCell ⟨s, 5, none⟩ (.pointer (some ⟨p, 0, none⟩))).alloc (.cells #[.pointer (some ⟨p, 0, none⟩), .int .i64 (-1), .int .i64 0] 228)

theorem round_facts (w2 : World) (s d log pages from_ batch p : Nat) (version : Int) (pool tree lg : Value) (h : StoreRaw w2 s d log pages from_ version pool tree lg batch) :
    StoreRaw (roundW w2 s p) s d log pages from_ version (.pointer (some ⟨p, 0, none⟩)) (.pointer (some ⟨w2.heap.size, 0, none⟩)) lg batch ∧ TreeAt (roundW w2 s p) w2.heap.size p ∧ Kp (· = s) w2 (roundW w2 s p) := by
  have hs := lt_of_heap h
  refine ⟨?_, ?_, ?_⟩
  · unfold StoreRaw roundW
    rw [Below.heap_alloc _ _ s (by simpa using hs)]
    exact StoreRaw.set 5 _ (StoreRaw.set 6 _ h rfl) rfl
  · unfold TreeAt roundW
    have := heap_alloc_new ((w2.setCell ⟨s, 6, none⟩ (.pointer (some ⟨w2.heap.size, 0, none⟩))).setCell ⟨s, 5, none⟩ (.pointer (some ⟨p, 0, none⟩))) (.cells #[.pointer (some ⟨p, 0, none⟩), .int .i64 (-1), .int .i64 0] 228)
    simpa using this
  · exact (((Kp.refl (· = s) w2).setCell 6 _ rfl).setCell 5 _ rfl).trans (Kp.of_below ((Below.refl _ _).alloc (Nat.le_refl _) _) _)

def iotaC (n j : Nat) : Array Value := ((List.range n).map fun i => if i < j then .int .i64 (i : Int) else .int .i64 0).toArray
theorem iotaC_size (n j : Nat) : (iotaC n j).size = n := by simp [iotaC]
theorem iotaC_get (n j i : Nat) (h : i < n) : (iotaC n j)[i]? = some (if i < j then .int .i64 (i : Int) else .int .i64 0) := by simp [iotaC, h]
theorem iotaC_zero (n : Nat) : madeCells #[.int .i64 0] n = iotaC n 0 := by
  apply Array.ext'
  rw [toList_madeCells_one]
  apply List.ext_getElem
  · simp [iotaC]
  · intro i h1 h2
    simp [iotaC]
theorem iotaC_step (n j : Nat) (_h : j < n) : (iotaC n j).setIfInBounds j (.int .i64 j) = iotaC n (j + 1) := by
  apply Array.ext_getElem?
  intro i
  rw [Array.getElem?_setIfInBounds, iotaC_size]
  by_cases hi : i < n
  · by_cases e : j = i
    · subst e; rw [if_pos rfl, if_pos hi, iotaC_get _ _ _ hi, if_pos (by omega)]
    · rw [if_neg e, iotaC_get _ _ _ hi, iotaC_get _ _ _ hi]
      by_cases h2 : i < j
      · rw [if_pos h2, if_pos (by omega)]
      · rw [if_neg h2, if_neg (by omega)]
  · rw [if_neg (by omega), Array.getElem?_eq_none (by rw [iotaC_size]; omega), Array.getElem?_eq_none (by rw [iotaC_size]; omega)]

set_option maxRecDepth 100000 in
set_option maxHeartbeats 400000 in
theorem raise_nil (w : World) (s d bx B N secs W log pages from_ batch : Nat) (version : Int) (D : Nat → Bytes) (pool tree lg : Value)
    (hs : StoreRaw w s d log pages from_ version pool tree lg batch) (hd : DiskP w d bx) (h : DiskAt w B N bx secs W D) (h1 : 1 ≤ pages) (h2 : from_ + pages ≤ secs) (hNs : N ≤ s) :
    Calls Tryz.prog 88 #[.pointer (some ⟨s, 0, none⟩), .int .i64 (-1)] w fun e w' =>
      e = .returned .nilIface ∧ ∃ p t, StoreRaw w' s d log pages from_ version (.pointer (some ⟨p, 0, none⟩)) (.pointer (some ⟨t, 0, none⟩)) lg batch ∧ TreeAt w' t p ∧ PoolAt w' p d from_ pages w.heap.size ∧ Kp (· = s) w w' ∧ w.heap.size ≤ t ∧ DiskP w' d bx ∧ DiskAt w' B N bx secs W D := by
  have hroom := h.room
  have k1 : w.cell? ⟨s, 2, none⟩ = some (.int .i64 pages) := (hs.cells 2 _ rfl).1
  have hmk : (Instr.makeSlice 29 (.int .i64 pages) (.int .i64 pages)).run Tryz.prog w = .ok (.slice (some ⟨w.heap.size, 0, none⟩) pages pages) (w.alloc (.cells (madeCells #[.int .i64 0] pages) 3)) :=
    run_make_row' (P := Tryz.prog) 29 3 (.int .i64 0) 8 Tryz.underlying29 (by kernel_rfl) rfl .i64 .i64 pages (by omega) (by omega) w
  have hs0 := lt_of_heap hs
  go_enter Tryz.func88, Tryz.ntmps88
  go_wp2
  rw [iotaC_zero] at *
  go_loopw [21] (fun i wr => ∃ j : Nat, j ≤ pages ∧ i = .int .i64 j ∧ Below w.heap.size w wr ∧ wr.heap[w.heap.size]? = some (.cells (iotaC pages j) 3 (0, 0))) (fun i _ => pages - (intOf i).toNat)
  case atStart => exact ⟨0, Nat.zero_le _, rfl, (Below.refl _ _).alloc (Nat.le_refl _) _, heap_alloc_new w _⟩
  case round =>
    obtain ⟨j, hj, rfl, hb, hrow⟩ := hrel
    by_cases hlt : j < pages
    · have e1 : wr.cell? ⟨w.heap.size, j, none⟩ = some (.int .i64 0) := by
        rw [World.cell?]; simp only [hrow]; rw [iotaC_get _ _ _ hlt, if_neg (Nat.lt_irrefl j)]; rfl
      have e2 : wr.frozen? ⟨w.heap.size, j, none⟩ = false := by simp [World.frozen?, hrow]
      have hz := lt_of_heap hrow
      have hb2 : Below w.heap.size w (wr.setCell ⟨w.heap.size, j, none⟩ (.int .i64 j)) := hb.setCell (Nat.le_refl _) _
      have hrow2 : (wr.setCell ⟨w.heap.size, j, none⟩ (.int .i64 j)).heap[w.heap.size]? = some (.cells (iotaC pages (j + 1)) 3 (0, 0)) := by
        rw [setCell_eq_setRow wr w.heap.size j _ _ _ _ hrow, iotaC_step _ _ hlt]
        exact setRow_heap wr w.heap.size _ _ _ _ hrow
      have Hb := Lib.hid hb2
      have Hrow := Lib.hid hrow2
      clear hb hb2 hrow hrow2
      go_wp2
      exact ⟨⟨j + 1, by omega, by go_num, Hb.out, Hrow.out⟩, by simp [intOf]; omega⟩
    · obtain rfl : j = pages := by omega
      have hI : Iota wr w.heap.size j := fun i hi => by
        rw [World.cell?]; simp only [hrow]; rw [iotaC_get _ _ _ hi, if_pos hi]; rfl
      have hsr : StoreRaw wr s d log j from_ version pool tree lg batch := by
        unfold StoreRaw at *; rw [hb.block _ hs0]; exact hs
      have hdr := hd.below hb
      have hatr := h.below hb
      have Hs := Lib.hid hsr
      have Hd := Lib.hid hdr
      have Hat := Lib.hid hatr
      have HI := Lib.hid hI
      have Hb := Lib.hid hb
      clear hs hd h hmk k1 hsr hdr hatr hI hb hrow
      go_wp2
      go_loopw [5, 29] (fun u i ws => Kp (· = s) w ws ∧ DiskP ws d bx ∧ DiskAt ws B N bx secs W D ∧
        ((i = .int .i64 0 ∧ u = .slice (some ⟨w.heap.size, 0, none⟩) j j ∧ StoreRaw ws s d log j from_ version pool tree lg batch ∧ Iota ws w.heap.size j) ∨
         (i = .int .i64 1 ∧ u = .slice none 0 0 ∧ ∃ p t, StoreRaw ws s d log j from_ version (.pointer (some ⟨p, 0, none⟩)) (.pointer (some ⟨t, 0, none⟩)) lg batch) ∨
         (i = .int .i64 2 ∧ u = .slice none 0 0 ∧ ∃ p t, StoreRaw ws s d log j from_ version (.pointer (some ⟨p, 0, none⟩)) (.pointer (some ⟨t, 0, none⟩)) lg batch ∧ TreeAt ws t p ∧ PoolAt ws p d from_ j w.heap.size ∧ w.heap.size ≤ t))) (fun _ i _ => 2 - (intOf i).toNat)
      case atStart => exact ⟨Kp.of_below Hb.out _, Hd.out, Hat.out, .inl ⟨rfl, rfl, Hs.out, HI.out⟩⟩
      case round =>
        obtain ⟨hkp, hdp, hat, ⟨rfl, rfl, hs1, hI⟩ | ⟨rfl, rfl, p, t, hs1⟩ | ⟨rfl, rfl, p, t, hs1, ht, hp, hwt⟩⟩ := hrel
        · obtain ⟨S, hSd⟩ : ∃ S : World → Prop, ∀ w', S w' ↔ (w'.cell? ⟨s, 0, none⟩ = some (.pointer (some ⟨d, 0, none⟩)) ∧ w'.cell? ⟨s, 3, none⟩ = some (.int .i64 from_) ∧ w'.cell? ⟨s, 2, none⟩ = some (.int .i64 j)) := ⟨_, fun _ => Iff.rfl⟩
          have hS : S wr.drew := (hSd _).2 ⟨(hs1.cells 0 _ rfl).1, (hs1.cells 3 _ rfl).1, (hs1.cells 2 _ rfl).1⟩
          have HSd := Lib.hid hSd
          have Hs1 := Lib.hid hs1
          clear hSd hs1
          go_wp2
          refine wp_region_I (by kernel_rfl) S 20 ?_
          refine wpAnyI_take 0 (v := ?_) rfl (by kernel_rfl) (by kernel_rfl) (by kernel_rfl) (by kernel_rfl) (fun _ _ _ h => h) (.inl ⟨rfl, fun w' hS' => ?_⟩) hS ?_; rotate_left 1; focus (have hf := (HSd.out w').1 hS'; (repeat (obtain ⟨_, hf⟩ := hf)); go_simp; (try rfl))
          refine wpAnyI_take 1 (v := ?_) rfl (by kernel_rfl) (by kernel_rfl) (by kernel_rfl) (by kernel_rfl) (fun _ _ _ h => h) (.inl ⟨rfl, fun w' hS' => ?_⟩) hS ?_; rotate_left 1; focus (have hf := (HSd.out w').1 hS'; (repeat (obtain ⟨_, hf⟩ := hf)); go_simp; (try rfl))
          refine wpAnyI_take 2 (v := ?_) rfl (by kernel_rfl) (by kernel_rfl) (by kernel_rfl) (by kernel_rfl) (fun _ _ _ h => h) (.inl ⟨rfl, fun w' hS' => ?_⟩) hS ?_; rotate_left 1; focus (have hf := (HSd.out w').1 hS'; (repeat (obtain ⟨_, hf⟩ := hf)); go_simp; (try rfl))
          refine wpAnyI_take 3 (v := ?_) rfl (by kernel_rfl) (by kernel_rfl) (by kernel_rfl) (by kernel_rfl) (fun _ _ _ h => h) (.inl ⟨rfl, fun w' hS' => ?_⟩) hS ?_; rotate_left 1; focus (have hf := (HSd.out w').1 hS'; (repeat (obtain ⟨_, hf⟩ := hf)); go_simp; (try rfl))
          refine wpAnyI_take 4 (v := ?_) rfl (by kernel_rfl) (by kernel_rfl) (by kernel_rfl) (by kernel_rfl) (fun _ _ _ h => h) (.inl ⟨rfl, fun w' hS' => ?_⟩) hS ?_; rotate_left 1; focus (have hf := (HSd.out w').1 hS'; (repeat (obtain ⟨_, hf⟩ := hf)); go_simp; (try rfl))
          refine wpAnyI_take 5 (v := ?_) rfl (by kernel_rfl) (by kernel_rfl) (by kernel_rfl) (by kernel_rfl) (fun _ _ _ h => h) (.inl ⟨rfl, fun w' hS' => ?_⟩) hS ?_; rotate_left 1; focus (have hf := (HSd.out w').1 hS'; (repeat (obtain ⟨_, hf⟩ := hf)); go_simp; (try rfl))
          refine wpAnyI_take 6 (v := ?_) rfl (by kernel_rfl) (by kernel_rfl) (by kernel_rfl) (by kernel_rfl) (fun _ _ _ h => h) (.inl ⟨rfl, fun w' hS' => ?_⟩) hS ?_; rotate_left 1; focus (have hf := (HSd.out w').1 hS'; (repeat (obtain ⟨_, hf⟩ := hf)); go_simp; (try rfl))
          refine wpAnyI_take 7 (v := ?_) rfl (by kernel_rfl) (by kernel_rfl) (by kernel_rfl) (by kernel_rfl) (fun _ _ _ h => h) (.inl ⟨rfl, fun w' hS' => ?_⟩) hS ?_; rotate_left 1; focus (have hf := (HSd.out w').1 hS'; (repeat (obtain ⟨_, hf⟩ := hf)); go_simp; (try rfl))
          refine wpAnyI_take 8 (v := ?_) rfl (by kernel_rfl) (by kernel_rfl) (by kernel_rfl) (by kernel_rfl) (fun _ _ _ h => h) (.inl ⟨rfl, fun w' hS' => ?_⟩) hS ?_; rotate_left 1; focus (have hf := (HSd.out w').1 hS'; (repeat (obtain ⟨_, hf⟩ := hf)); go_simp; (try rfl))
          refine wpAnyI_take 9 (v := ?_) rfl (by kernel_rfl) (by kernel_rfl) (by kernel_rfl) (by kernel_rfl) (fun _ _ _ h => h) (.inl ⟨rfl, fun w' hS' => ?_⟩) hS ?_; rotate_left 1; focus (have hf := (HSd.out w').1 hS'; (repeat (obtain ⟨_, hf⟩ := hf)); go_simp; (try rfl))
          refine wpAnyI_take 10 (v := ?_) rfl (by kernel_rfl) (by kernel_rfl) (by kernel_rfl) (by kernel_rfl) (fun _ _ _ h => h) (.inl ⟨rfl, fun w' hS' => ?_⟩) hS ?_; rotate_left 1; focus (have hf := (HSd.out w').1 hS'; (repeat (obtain ⟨_, hf⟩ := hf)); go_simp; (try rfl))
          refine wpAnyI_take 11 (v := ?_) rfl (by kernel_rfl) (by kernel_rfl) (by kernel_rfl) (by kernel_rfl) (fun _ _ _ h => h) (.inl ⟨rfl, fun w' hS' => ?_⟩) hS ?_; rotate_left 1; focus (have hf := (HSd.out w').1 hS'; (repeat (obtain ⟨_, hf⟩ := hf)); go_simp; (try rfl))
          refine wpAnyI_take 12 (v := ?_) rfl (by kernel_rfl) (by kernel_rfl) (by kernel_rfl) (by kernel_rfl) (fun _ _ _ h => h) (.inl ⟨rfl, fun w' hS' => ?_⟩) hS ?_; rotate_left 1; focus (have hf := (HSd.out w').1 hS'; (repeat (obtain ⟨_, hf⟩ := hf)); go_simp; (try rfl))
          refine wpAnyI_take 13 (v := ?_) rfl (by kernel_rfl) (by kernel_rfl) (by kernel_rfl) (by kernel_rfl) (fun _ _ _ h => h) (.inl ⟨rfl, fun w' hS' => ?_⟩) hS ?_; rotate_left 1; focus (have hf := (HSd.out w').1 hS'; (repeat (obtain ⟨_, hf⟩ := hf)); go_simp; (try rfl))
          refine wpAnyI_take 14 (v := ?_) rfl (by kernel_rfl) (by kernel_rfl) (by kernel_rfl) (by kernel_rfl) (fun _ _ _ h => h) (.inl ⟨rfl, fun w' hS' => ?_⟩) hS ?_; rotate_left 1; focus (have hf := (HSd.out w').1 hS'; (repeat (obtain ⟨_, hf⟩ := hf)); go_simp; (try rfl))
          refine wpAnyI_one 15 (by kernel_rfl) (wpOp_step rfl (fun K hK => ?_))
          go_simp
          refine (pagerOpen_all wr.drew d bx B N secs W from_ j w.heap.size j D (hdp.below (Below.refl _ _).drew) (hat.below (Below.refl _ _).drew) h1 h2 hI).mono ?_
          rintro e w2 ⟨rfl, hb2⟩
          have hb2' : Below wr.heap.size wr w2 := (Below.refl _ _).drew.trans hb2
          have hs2 : StoreRaw w2 s d log j from_ version pool tree lg batch := by
            unfold StoreRaw; rw [hb2'.block _ (lt_of_heap Hs1.out)]; exact Hs1.out
          refine hK _ _ ⟨fun _ => (HSd.out _).2 ⟨(hs2.cells 0 _ rfl).1, (hs2.cells 3 _ rfl).1, (hs2.cells 2 _ rfl).1⟩, ?_⟩
          clear hK K
          have hS := (HSd.out w2).2 ⟨(hs2.cells 0 _ rfl).1, (hs2.cells 3 _ rfl).1, (hs2.cells 2 _ rfl).1⟩
          refine wpAnyI_take 16 (v := ?_) rfl (by kernel_rfl) (by kernel_rfl) (by kernel_rfl) (by kernel_rfl) (fun _ _ _ h => h) (.inl ⟨rfl, fun w' hS' => ?_⟩) hS ?_; rotate_left 1; focus (have hf := (HSd.out w').1 hS'; (repeat (obtain ⟨_, hf⟩ := hf)); go_simp; (try rfl))
          refine wpAnyI_take 17 (v := ?_) rfl (by kernel_rfl) (by kernel_rfl) (by kernel_rfl) (by kernel_rfl) (fun _ _ _ h => h) (.inl ⟨rfl, fun w' hS' => ?_⟩) hS ?_; rotate_left 1; focus (have hf := (HSd.out w').1 hS'; (repeat (obtain ⟨_, hf⟩ := hf)); go_simp; (try rfl))
          refine wpAnyI_take 18 (v := ?_) rfl (by kernel_rfl) (by kernel_rfl) (by kernel_rfl) (by kernel_rfl) (fun _ _ _ h => h) (.inl ⟨rfl, fun w' hS' => ?_⟩) hS ?_; rotate_left 1; focus (have hf := (HSd.out w').1 hS'; (repeat (obtain ⟨_, hf⟩ := hf)); go_simp; (try rfl))
          refine wpAnyI_take 19 (v := ?_) rfl (by kernel_rfl) (by kernel_rfl) (by kernel_rfl) (by kernel_rfl) (fun _ _ _ h => h) (.inl ⟨rfl, fun w' hS' => ?_⟩) hS ?_; rotate_left 1; focus (have hf := (HSd.out w').1 hS'; (repeat (obtain ⟨_, hf⟩ := hf)); go_simp; (try rfl))
          refine wpAnyI_one 20 (by kernel_rfl) (wpOp_step rfl (fun K hK => ?_)); go_simp; refine hK _ _ ⟨fun h => absurd rfl h, ?_⟩; clear hK K; refine wpAnyI_done (by kernel_rfl) ?_ _; go_simp
          clear hS HSd
          have hsz2 : s < w2.heap.size := lt_of_heap hs2
          have hkp2 : Kp (· = s) w w2 := hkp.trans (Kp.of_below hb2' _)
          have hat2 := hat.below hb2'
          have hdp2 := hdp.below hb2'
          obtain ⟨q1, q2, q3⟩ := round_facts w2 s d log j from_ batch (wr.heap.size + 3) version pool tree lg hs2
          have cP := treePages_nil _ _ _ q2
          have f5 : w2.cell? ⟨s, 5, none⟩ = some pool ∧ w2.frozen? ⟨s, 5, none⟩ = false := hs2.cells 5 _ rfl
          have f6 : w2.cell? ⟨s, 6, none⟩ = some tree ∧ w2.frozen? ⟨s, 6, none⟩ = false := hs2.cells 6 _ rfl
          obtain ⟨f5, g5⟩ := f5
          obtain ⟨f6, g6⟩ := f6
          have Q1 := Lib.hid q1; have Q2 := Lib.hid q2; have Q3 := Lib.hid q3
          have Q0 := Lib.hid hs2; have Hkp2 := Lib.hid hkp2; have Hat2 := Lib.hid hat2; have Hdp2 := Lib.hid hdp2
          clear q1 q2 q3 hs2 hI hat hdp hkp hkp2 hat2 hdp2
          have hto := fun p => treeOpen_nil w2 p
          go_wp2_with first | (go_at_call 143; refine (hto _).mono ?_; rintro e w3 ⟨rfl, rfl⟩) | (go_at_call 144; refine cP.mono ?_; rintro e w3 ⟨rfl, hb3⟩) | fail
          have hb3r : Below w2.heap.size w2 w2 := Below.refl _ _
          have hkp3 : Kp (· = s) w w3 := (Hkp2.out.trans Q3.out).trans (Kp.of_below hb3 _)
          have Hb3 := Lib.hid hb3
          clear hb3
          go_roundw
          case rel =>
            refine ⟨hkp3, ?_, ?_, .inr (.inl ⟨rfl, rfl, wr.heap.size + 3, w2.heap.size, ?_⟩)⟩
            · exact (Hdp2.out.keep Q3.out (by rintro rfl; exact absurd Hdp2.out (by intro hx; unfold DiskP at hx; have := Q0.out; unfold StoreRaw at this; rw [this] at hx; cases hx))).below Hb3.out
            · exact (Hat2.out.keep Q3.out (by rintro b rfl; exact ⟨hNs, fun cs t fz hh => by have := Q0.out; unfold StoreRaw at this; rw [this] at hh; cases hh; decide⟩)).below Hb3.out
            · unfold StoreRaw; rw [Hb3.out.block _ (lt_of_heap Q1.out)]; exact Q1.out
          case measure => simp [intOf]
        · obtain ⟨S, hSd⟩ : ∃ S : World → Prop, ∀ w', S w' ↔ (w'.cell? ⟨s, 0, none⟩ = some (.pointer (some ⟨d, 0, none⟩)) ∧ w'.cell? ⟨s, 3, none⟩ = some (.int .i64 from_) ∧ w'.cell? ⟨s, 2, none⟩ = some (.int .i64 j)) := ⟨_, fun _ => Iff.rfl⟩
          have hS : S wr.drew := (hSd _).2 ⟨(hs1.cells 0 _ rfl).1, (hs1.cells 3 _ rfl).1, (hs1.cells 2 _ rfl).1⟩
          have HSd := Lib.hid hSd
          have Hs1 := Lib.hid hs1
          clear hSd hs1
          go_wp2
          refine wp_region_I (by kernel_rfl) S 20 ?_
          refine wpAnyI_take 0 (v := ?_) rfl (by kernel_rfl) (by kernel_rfl) (by kernel_rfl) (by kernel_rfl) (fun _ _ _ h => h) (.inl ⟨rfl, fun w' hS' => ?_⟩) hS ?_; rotate_left 1; focus (have hf := (HSd.out w').1 hS'; (repeat (obtain ⟨_, hf⟩ := hf)); go_simp; (try rfl))
          refine wpAnyI_take 1 (v := ?_) rfl (by kernel_rfl) (by kernel_rfl) (by kernel_rfl) (by kernel_rfl) (fun _ _ _ h => h) (.inl ⟨rfl, fun w' hS' => ?_⟩) hS ?_; rotate_left 1; focus (have hf := (HSd.out w').1 hS'; (repeat (obtain ⟨_, hf⟩ := hf)); go_simp; (try rfl))
          refine wpAnyI_take 2 (v := ?_) rfl (by kernel_rfl) (by kernel_rfl) (by kernel_rfl) (by kernel_rfl) (fun _ _ _ h => h) (.inl ⟨rfl, fun w' hS' => ?_⟩) hS ?_; rotate_left 1; focus (have hf := (HSd.out w').1 hS'; (repeat (obtain ⟨_, hf⟩ := hf)); go_simp; (try rfl))
          refine wpAnyI_take 3 (v := ?_) rfl (by kernel_rfl) (by kernel_rfl) (by kernel_rfl) (by kernel_rfl) (fun _ _ _ h => h) (.inl ⟨rfl, fun w' hS' => ?_⟩) hS ?_; rotate_left 1; focus (have hf := (HSd.out w').1 hS'; (repeat (obtain ⟨_, hf⟩ := hf)); go_simp; (try rfl))
          refine wpAnyI_take 4 (v := ?_) rfl (by kernel_rfl) (by kernel_rfl) (by kernel_rfl) (by kernel_rfl) (fun _ _ _ h => h) (.inl ⟨rfl, fun w' hS' => ?_⟩) hS ?_; rotate_left 1; focus (have hf := (HSd.out w').1 hS'; (repeat (obtain ⟨_, hf⟩ := hf)); go_simp; (try rfl))
          refine wpAnyI_take 5 (v := ?_) rfl (by kernel_rfl) (by kernel_rfl) (by kernel_rfl) (by kernel_rfl) (fun _ _ _ h => h) (.inl ⟨rfl, fun w' hS' => ?_⟩) hS ?_; rotate_left 1; focus (have hf := (HSd.out w').1 hS'; (repeat (obtain ⟨_, hf⟩ := hf)); go_simp; (try rfl))
          refine wpAnyI_take 6 (v := ?_) rfl (by kernel_rfl) (by kernel_rfl) (by kernel_rfl) (by kernel_rfl) (fun _ _ _ h => h) (.inl ⟨rfl, fun w' hS' => ?_⟩) hS ?_; rotate_left 1; focus (have hf := (HSd.out w').1 hS'; (repeat (obtain ⟨_, hf⟩ := hf)); go_simp; (try rfl))
          refine wpAnyI_take 7 (v := ?_) rfl (by kernel_rfl) (by kernel_rfl) (by kernel_rfl) (by kernel_rfl) (fun _ _ _ h => h) (.inl ⟨rfl, fun w' hS' => ?_⟩) hS ?_; rotate_left 1; focus (have hf := (HSd.out w').1 hS'; (repeat (obtain ⟨_, hf⟩ := hf)); go_simp; (try rfl))
          refine wpAnyI_take 8 (v := ?_) rfl (by kernel_rfl) (by kernel_rfl) (by kernel_rfl) (by kernel_rfl) (fun _ _ _ h => h) (.inl ⟨rfl, fun w' hS' => ?_⟩) hS ?_; rotate_left 1; focus (have hf := (HSd.out w').1 hS'; (repeat (obtain ⟨_, hf⟩ := hf)); go_simp; (try rfl))
          refine wpAnyI_take 9 (v := ?_) rfl (by kernel_rfl) (by kernel_rfl) (by kernel_rfl) (by kernel_rfl) (fun _ _ _ h => h) (.inl ⟨rfl, fun w' hS' => ?_⟩) hS ?_; rotate_left 1; focus (have hf := (HSd.out w').1 hS'; (repeat (obtain ⟨_, hf⟩ := hf)); go_simp; (try rfl))
          refine wpAnyI_take 10 (v := ?_) rfl (by kernel_rfl) (by kernel_rfl) (by kernel_rfl) (by kernel_rfl) (fun _ _ _ h => h) (.inl ⟨rfl, fun w' hS' => ?_⟩) hS ?_; rotate_left 1; focus (have hf := (HSd.out w').1 hS'; (repeat (obtain ⟨_, hf⟩ := hf)); go_simp; (try rfl))
          refine wpAnyI_take 11 (v := ?_) rfl (by kernel_rfl) (by kernel_rfl) (by kernel_rfl) (by kernel_rfl) (fun _ _ _ h => h) (.inl ⟨rfl, fun w' hS' => ?_⟩) hS ?_; rotate_left 1; focus (have hf := (HSd.out w').1 hS'; (repeat (obtain ⟨_, hf⟩ := hf)); go_simp; (try rfl))
          refine wpAnyI_take 12 (v := ?_) rfl (by kernel_rfl) (by kernel_rfl) (by kernel_rfl) (by kernel_rfl) (fun _ _ _ h => h) (.inl ⟨rfl, fun w' hS' => ?_⟩) hS ?_; rotate_left 1; focus (have hf := (HSd.out w').1 hS'; (repeat (obtain ⟨_, hf⟩ := hf)); go_simp; (try rfl))
          refine wpAnyI_take 13 (v := ?_) rfl (by kernel_rfl) (by kernel_rfl) (by kernel_rfl) (by kernel_rfl) (fun _ _ _ h => h) (.inl ⟨rfl, fun w' hS' => ?_⟩) hS ?_; rotate_left 1; focus (have hf := (HSd.out w').1 hS'; (repeat (obtain ⟨_, hf⟩ := hf)); go_simp; (try rfl))
          refine wpAnyI_take 14 (v := ?_) rfl (by kernel_rfl) (by kernel_rfl) (by kernel_rfl) (by kernel_rfl) (fun _ _ _ h => h) (.inl ⟨rfl, fun w' hS' => ?_⟩) hS ?_; rotate_left 1; focus (have hf := (HSd.out w').1 hS'; (repeat (obtain ⟨_, hf⟩ := hf)); go_simp; (try rfl))
          refine wpAnyI_one 15 (by kernel_rfl) (wpOp_step rfl (fun K hK => ?_))
          go_simp
          refine (pagerOpen_nil wr.drew d bx B N secs W from_ j D (hdp.below (Below.refl _ _).drew) (hat.below (Below.refl _ _).drew) h1 h2).mono ?_
          rintro e w2 ⟨rfl, hw2⟩
          have hpool2 : PoolAt w2 (wr.heap.size + 3) d from_ j w.heap.size := by rw [hw2]; exact poolW_at wr.drew d from_ j w.heap.size (by have := hkp.size; simp; omega)
          have hb2 : Below wr.drew.heap.size wr.drew w2 := by rw [hw2]; exact poolW_below _ _ _ _
          clear hw2
          have hb2' : Below wr.heap.size wr w2 := (Below.refl _ _).drew.trans hb2
          have hs2 : StoreRaw w2 s d log j from_ version (.pointer (some ⟨p, 0, none⟩)) (.pointer (some ⟨t, 0, none⟩)) lg batch := by
            unfold StoreRaw; rw [hb2'.block _ (lt_of_heap Hs1.out)]; exact Hs1.out
          refine hK _ _ ⟨fun _ => (HSd.out _).2 ⟨(hs2.cells 0 _ rfl).1, (hs2.cells 3 _ rfl).1, (hs2.cells 2 _ rfl).1⟩, ?_⟩
          clear hK K
          have hS := (HSd.out w2).2 ⟨(hs2.cells 0 _ rfl).1, (hs2.cells 3 _ rfl).1, (hs2.cells 2 _ rfl).1⟩
          refine wpAnyI_take 16 (v := ?_) rfl (by kernel_rfl) (by kernel_rfl) (by kernel_rfl) (by kernel_rfl) (fun _ _ _ h => h) (.inl ⟨rfl, fun w' hS' => ?_⟩) hS ?_; rotate_left 1; focus (have hf := (HSd.out w').1 hS'; (repeat (obtain ⟨_, hf⟩ := hf)); go_simp; (try rfl))
          refine wpAnyI_take 17 (v := ?_) rfl (by kernel_rfl) (by kernel_rfl) (by kernel_rfl) (by kernel_rfl) (fun _ _ _ h => h) (.inl ⟨rfl, fun w' hS' => ?_⟩) hS ?_; rotate_left 1; focus (have hf := (HSd.out w').1 hS'; (repeat (obtain ⟨_, hf⟩ := hf)); go_simp; (try rfl))
          refine wpAnyI_take 18 (v := ?_) rfl (by kernel_rfl) (by kernel_rfl) (by kernel_rfl) (by kernel_rfl) (fun _ _ _ h => h) (.inl ⟨rfl, fun w' hS' => ?_⟩) hS ?_; rotate_left 1; focus (have hf := (HSd.out w').1 hS'; (repeat (obtain ⟨_, hf⟩ := hf)); go_simp; (try rfl))
          refine wpAnyI_take 19 (v := ?_) rfl (by kernel_rfl) (by kernel_rfl) (by kernel_rfl) (by kernel_rfl) (fun _ _ _ h => h) (.inl ⟨rfl, fun w' hS' => ?_⟩) hS ?_; rotate_left 1; focus (have hf := (HSd.out w').1 hS'; (repeat (obtain ⟨_, hf⟩ := hf)); go_simp; (try rfl))
          refine wpAnyI_one 20 (by kernel_rfl) (wpOp_step rfl (fun K hK => ?_)); go_simp; refine hK _ _ ⟨fun h => absurd rfl h, ?_⟩; clear hK K; refine wpAnyI_done (by kernel_rfl) ?_ _; go_simp
          clear hS HSd
          have hsz2 : s < w2.heap.size := lt_of_heap hs2
          have hkp2 : Kp (· = s) w w2 := hkp.trans (Kp.of_below hb2' _)
          have hat2 := hat.below hb2'
          have hdp2 := hdp.below hb2'
          obtain ⟨q1, q2, q3⟩ := round_facts w2 s d log j from_ batch (wr.heap.size + 3) version _ _ lg hs2
          have cP := treePages_nil _ _ _ q2
          have f5 : w2.cell? ⟨s, 5, none⟩ = some (.pointer (some ⟨p, 0, none⟩)) ∧ w2.frozen? ⟨s, 5, none⟩ = false := hs2.cells 5 _ rfl
          have f6 : w2.cell? ⟨s, 6, none⟩ = some (.pointer (some ⟨t, 0, none⟩)) ∧ w2.frozen? ⟨s, 6, none⟩ = false := hs2.cells 6 _ rfl
          obtain ⟨f5, g5⟩ := f5
          obtain ⟨f6, g6⟩ := f6
          have Q1 := Lib.hid q1; have Q2 := Lib.hid q2; have Q3 := Lib.hid q3
          have Q0 := Lib.hid hs2; have Hkp2 := Lib.hid hkp2; have Hat2 := Lib.hid hat2; have Hdp2 := Lib.hid hdp2
          have Hp2 := Lib.hid hpool2
          clear hpool2 q1 q2 q3 hs2 hat hdp hkp hkp2 hat2 hdp2
          have hto := fun p => treeOpen_nil w2 p
          go_wp2_with first | (go_at_call 143; refine (hto _).mono ?_; rintro e w3 ⟨rfl, rfl⟩) | (go_at_call 144; refine cP.mono ?_; rintro e w3 ⟨rfl, hb3⟩) | fail
          have hb3r : Below w2.heap.size w2 w2 := Below.refl _ _
          have hkp3 : Kp (· = s) w w3 := (Hkp2.out.trans Q3.out).trans (Kp.of_below hb3 _)
          have Hb3 := Lib.hid hb3
          clear hb3
          go_roundw
          case rel =>
            refine ⟨hkp3, ?_, ?_, .inr (.inr ⟨rfl, rfl, wr.heap.size + 3, w2.heap.size, ?_, ?_, ?_, Hkp2.out.size⟩)⟩
            · exact (Hdp2.out.keep Q3.out (by rintro rfl; exact absurd Hdp2.out (by intro hx; unfold DiskP at hx; have := Q0.out; unfold StoreRaw at this; rw [this] at hx; cases hx))).below Hb3.out
            · exact (Hat2.out.keep Q3.out (by rintro b rfl; exact ⟨hNs, fun cs t fz hh => by have := Q0.out; unfold StoreRaw at this; rw [this] at hh; cases hh; decide⟩)).below Hb3.out
            · unfold StoreRaw; rw [Hb3.out.block _ (lt_of_heap Q1.out)]; exact Q1.out
            · unfold TreeAt; rw [Hb3.out.block _ (lt_of_heap Q2.out)]; exact Q2.out
            · exact (Hp2.out.keep Q3.out (by rintro b rfl _; exact ⟨_, _, _, Q0.out, by decide⟩)).below Hb3.out
          case measure => simp [intOf]
        · have cA := treeAll_nil wr t p ht ⟨#[]⟩ ⟨#[]⟩
          have f6 : wr.cell? ⟨s, 6, none⟩ = some (.pointer (some ⟨t, 0, none⟩)) := (hs1.cells 6 _ rfl).1
          have hs1z := lt_of_heap hs1
          have Hs1 := Lib.hid hs1; have Ht := Lib.hid ht; have Hp := Lib.hid hp; have Hkp := Lib.hid hkp; have Hat1 := Lib.hid hat; have Hdp := Lib.hid hdp
          clear hs1 ht hp hkp hat hdp
          go_wp2_with first | (go_at_call 104; refine cA.mono ?_; rintro e w3 ⟨rfl, hb3⟩) | fail
          go_loopw [91] (fun i wt => i = .int .i64 0 ∧ wt = w3) (fun _ _ => 0)
          case atStart => exact ⟨rfl, rfl⟩
          case round =>
            obtain ⟨rfl, rfl⟩ := hrel
            have Hb3 := Lib.hid hb3
            clear hb3
            go_wp2
            go_ret
            refine ⟨rfl, p, t, ?_, ?_, Hp.out.below Hb3.out, Hkp.out.trans (Kp.of_below Hb3.out _), hwt, Hdp.out.below Hb3.out, Hat1.out.below Hb3.out⟩
            · unfold StoreRaw; rw [Hb3.out.block _ (lt_of_heap Hs1.out)]; exact Hs1.out
            · unfold TreeAt; rw [Hb3.out.block _ (lt_of_heap Ht.out)]; exact Ht.out
end Go.Proofs.YtmbfenkmabdokaaGreatDoor
