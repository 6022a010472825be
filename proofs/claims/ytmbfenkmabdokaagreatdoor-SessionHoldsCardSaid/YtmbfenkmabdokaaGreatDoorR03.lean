/- Parts of the proof: Disk, Held, Disk2, Disk3, Parted. -/
import Derived.Laws.CopyOwn
import Derived.OrdersHeld
import Derived.Deep.RegionHeldLaw
import Derived.Test.YtmbfenkmabdokaaGreatDoorR02
import Derived.Test.YtmbfenkmabdokaaGreatDoorR00
set_option linter.all false
namespace Go.Proofs.YtmbfenkmabdokaaGreatDoor
open Go.RowKit Go.Mp

/-- what waits for a sync, as cells -/
def wcells (ws : List (Value × Value)) : List Value := ws.flatMap fun p => [p.1, p.2]
def zeros : Bytes := List.replicate 512 0

/-- A sector's bytes. -/
def SecV (w : World) (v : Value) (l : Bytes) : Prop :=
  ∃ A c, v = .slice A l.length c ∧ l.length ≤ c ∧ c ≤ maxLen ∧ RdB w A l ∧ (∀ a, A = some a → ∃ cs fz, w.heap[a.block]? = some (.cells cs 5 fz))

/-- The box of a disk: block bx, from B on, below N its maps, too; D: what is read. -/
structure DiskAt (w : World) (B N bx many W : Nat) (D : Nat → Bytes) : Prop where
  lo : B ≤ bx
  hi : bx < N
  room : many ≤ 1048576
  rest : ∃ sm nm wv safe now ws, w.heap[bx]? = some (.cells #[.int .i64 many, .map (some sm), .map (some nm), wv, .bool false, .int .i64 0, .bool false, .bool false] 129 (0, 0)) ∧
    (B ≤ sm ∧ sm < N) ∧ (B ≤ nm ∧ nm < N) ∧ sm ≠ nm ∧ Mp.Is (α := Int) w sm safe ∧ Mp.Is (α := Int) w nm now ∧
    w.ownsRow B 206 2 wv ws.length (wcells ws) ∧ ws.length ≤ W ∧ (∀ p ∈ ws, (∃ n, p.1 = .int .i64 n) ∧ (∃ A l c, p.2 = .slice A l c)) ∧
    (∀ k, k < many → (D k).length = 512 ∧ match Mp.get now (k : Int) with | none => D k = zeros | some v => SecV w v (D k))

/-- what an act on the disk may turn -/
def DF (B N : Nat) (w : World) (k : Nat) : Prop := B ≤ k ∧ (k < N ∨ ∃ cs fz, w.heap[k]? = some (.cells cs 206 fz))

theorem DF.trans {B N : Nat} {a b c : World} (h : Kp (DF B N a) a b) (k : Kp (DF B N b) b c) : Kp (DF B N a) a c :=
  ⟨k.os.trans h.os, k.tape.trans h.tape, k.output.trans h.output, Nat.le_trans h.size k.size, fun i hi hf => by
    have h1 := h.block i hi hf
    rw [k.block i (Nat.lt_of_lt_of_le hi h.size) ?_, h1]
    rintro ⟨h2, h3⟩
    apply hf
    refine ⟨h2, ?_⟩
    rcases h3 with h3 | ⟨cs, fz, h3⟩
    · exact .inl h3
    · exact .inr ⟨cs, fz, by rw [← h1]; exact h3⟩⟩

theorem SecV.below {w w' : World} {v : Value} {l : Bytes} (h : SecV w v l) (k : Below w.heap.size w w') : SecV w' v l := by
  obtain ⟨A, c, h1, h2, h3, h4, h5⟩ := h
  refine ⟨A, c, h1, h2, h3, h4.below k, fun a ha => ?_⟩
  obtain ⟨cs, fz, h6⟩ := h5 a ha
  exact ⟨cs, fz, by rw [k.block _ (lt_of_heap h6)]; exact h6⟩

theorem ownsRow_below {w w' : World} {B e n sz : Nat} {v : Value} {xs : List Value} (h : w.ownsRow B e sz v n xs) (k : Below w.heap.size w w') : w'.ownsRow B e sz v n xs := by
  refine ⟨h.1, ?_⟩
  rcases h.2 with h2 | ⟨g, cap, cur, hv, hg, hh, r⟩
  · exact .inl h2
  · exact .inr ⟨g, cap, cur, hv, hg, by rw [k.block _ (lt_of_heap hh)]; exact hh, r⟩

theorem DiskAt.below {w w' : World} {B N bx many W : Nat} {D : Nat → Bytes} (h : DiskAt w B N bx many W D) (k : Below w.heap.size w w') : DiskAt w' B N bx many W D := by
  obtain ⟨h1, h2, h0, sm, nm, wv, safe, now, ws, h3, h4, h5, h6, ⟨e1, c1, h7⟩, ⟨e2, c2, h8⟩, h9, h10, h11, h12⟩ := h
  refine ⟨h1, h2, h0, sm, nm, wv, safe, now, ws, by rw [k.block _ (lt_of_heap h3)]; exact h3, h4, h5, h6, Mp.Is.keep ⟨e1, c1, h7⟩ (k.block _ (lt_of_heap h7.block)), Mp.Is.keep ⟨e2, c2, h8⟩ (k.block _ (lt_of_heap h8.block)),
    ownsRow_below h9 k, h10, h11, fun i hi => ⟨(h12 i hi).1, ?_⟩⟩
  have := (h12 i hi).2
  cases hg : Mp.get now (i : Int) with
  | none => rw [hg] at this; exact this
  | some v => rw [hg] at this; exact SecV.below this k

/-- A disk's pointer. -/
def DiskP (w : World) (d bx : Nat) : Prop := w.heap[d]? = some (.cells #[.pointer (some ⟨bx, 0, none⟩)] 138 (0, 0))
theorem DiskP.cell {w : World} {d bx : Nat} (h : DiskP w d bx) : w.cell? ⟨d, 0, none⟩ = some (.pointer (some ⟨bx, 0, none⟩)) := by simp [World.cell?, DiskP] at *; simp [h]

theorem Sectors_any (w : World) (d bx B N many W : Nat) (D : Nat → Bytes) (hd : DiskP w d bx) (h : DiskAt w B N bx many W D) :
    Calls Tryz.prog 65 #[.pointer (some ⟨d, 0, none⟩)] w fun e w' => e = .returned (.int .i64 many) ∧ w = w' := by
  obtain ⟨_, _, _, sm, nm, wv, safe, now, ws, hb, _⟩ := h
  have c0 := hd.cell
  have c1 : w.cell? ⟨bx, 0, none⟩ = some (.int .i64 many) := by simp [World.cell?, hb]
  go_enter Tryz.func65, Tryz.ntmps65
  go_wp2
  go_ret
  exact ⟨rfl, rfl⟩

theorem info_bytes : (Tryz.prog.info? 26).map (fun i => (i.zero, i.size, i.bytes)) = some (some (.slice none 0 0), 1, 24) := by kernel_rfl

theorem u8_size : (Tryz.prog.info? 5).map (·.size) = some 1 := by kernel_rfl
theorem made_zeros : (madeCells #[Value.int .u8 0] 512) = (bcs zeros).toArray := by
  apply Array.ext'
  rw [toList_madeCells_one]
  unfold bcs zeros
  rw [List.map_replicate]
  rfl
theorem bytesv_zero : ∀ w, (zeroValue 26).run Tryz.prog w = .ok (.slice none 0 0) w := fun w => by kernel_rfl

set_option maxRecDepth 100000 in
set_option maxHeartbeats 400000 in
theorem Read_disk (w : World) (d bx B N many W k : Nat) (D : Nat → Bytes) (hd : DiskP w d bx) (h : DiskAt w B N bx many W D) (hk : k < many) :
    Calls Tryz.prog 140 #[.pointer (some ⟨d, 0, none⟩), .int .i64 k] w fun e w' =>
      e = .returned (.tuple #[.slice (some ⟨w.heap.size, 0, none⟩) 512 512, .nilIface]) ∧ Below w.heap.size w w' ∧ w'.heap[w.heap.size]? = some (.cells (bcs (D k)).toArray 5 (0, 0)) := by
  obtain ⟨_, _, hroom, sm, nm, wv, safe, now, ws, hb, _, _, _, _, hnow, _, _, _, hD⟩ := h
  have c0 := hd.cell
  have c1 : w.cell? ⟨bx, 0, none⟩ = some (.int .i64 many) := by simp [World.cell?, hb]
  have c2 : w.cell? ⟨bx, 2, none⟩ = some (.map (some nm)) := by simp [World.cell?, hb]
  have c3 : w.cell? ⟨bx, 7, none⟩ = some (.bool false) := by simp [World.cell?, hb]
  have hd0 := lt_of_cell c0
  have hb0 := lt_of_cell c1
  have hmk : (Instr.makeSlice 26 (.int .i64 512) (.int .i64 512)).run Tryz.prog w = .ok (.slice (some ⟨w.heap.size, 0, none⟩) 512 512) (w.alloc (.cells (bcs zeros).toArray 5)) := by
    have := run_make_row' (P := Tryz.prog) 26 5 (.int .u8 0) 1 Tryz.underlying26 info_u8 rfl .i64 .i64 512 (by omega) (by omega) w
    rw [made_zeros] at this
    exact this
  obtain ⟨hlen, hDk⟩ := hD k hk
  have hnow1 : Mp.Is (w.alloc (.cells (bcs zeros).toArray 5)) nm now := hnow.keep (Below.heap_alloc _ _ _ (by obtain ⟨_, _, hh⟩ := hnow; exact lt_of_heap hh.block))
  have hlk : (Instr.lookup 126 (.map (some nm)) (.int .i64 k) false).run Tryz.prog (w.alloc (.cells (bcs zeros).toArray 5)) = _ :=
    run_lookup (P := Tryz.prog) 126 3 26 Tryz.underlying126 Tryz.underlying3 hnow1 (k : Int) (.slice none 0 0) bytesv_zero
  have hblow : Below w.heap.size w (w.alloc (.cells (bcs zeros).toArray 5)) := (Below.refl _ _).alloc (Nat.le_refl _) _
  have hnew := heap_alloc_new w (Obj.cells (bcs zeros).toArray 5)
  cases hg : Mp.get now (k : Int) with
  | none =>
    rw [hg] at hlk hDk
    simp only [Option.getD_none] at hlk
    clear hnow hnow1 hD
    go_enter Tryz.func140, Tryz.ntmps140
    go_wp2_with (with_reducible refine wpList_copy_nothing rfl (.tmp 32) (.tmp 41) 26 26 rfl 5 Tryz.underlying26 u8_size _ _ _ _ _ _ rfl rfl rfl ?_)
    go_ret2
    exact ⟨rfl, hblow, by first | exact hnew | (rw [hDk]; exact hnew)⟩
  | some v =>
    rw [hg] at hlk hDk
    simp only [Option.getD_some] at hlk
    obtain ⟨A, c, rfl, hc1, hc2, hr, _⟩ := hDk
    have hr1 := hr.below hblow
    rcases hr1 with h0 | ⟨sb, so, rfl, hr1⟩
    · rw [h0] at hlen; simp at hlen
    have hrow : w.heap.size < (w.alloc (.cells (bcs zeros).toArray 5)).heap.size := by simp
    have hzl : (bcs zeros).length = 512 := by simp [bcs, zeros]
    have hbl : (bcs (D k)).length = 512 := by rw [bcs_length, hlen]
    have hsrc : ∀ j u, (bcs (D k))[j]? = some u → (w.alloc (.cells (bcs zeros).toArray 5)).cell? ((⟨sb, so, none⟩ : Addr).add j) = some u := by
      intro j u hu
      obtain ⟨hj, rfl⟩ := bcs_get _ j u hu
      rw [Addr.add_lit]
      exact hr1 j hj
    rw [hlen] at hlk
    have h1 := bcs_one (D k)
    have Hfin : Hid ((List.take 0 (bcs zeros) ++ (bcs (D k) ++ (bcs zeros).drop (0 + (bcs (D k)).length))) = bcs (D k)) := Lib.hid (by rw [hbl, List.drop_eq_nil_of_le (by omega)]; simp)
    generalize bcs (D k) = cs at *
    generalize bcs zeros = zs at *
    clear hnow hnow1 hD hr1 hr
    have HB := Lib.hid hblow
    have HN := Lib.hid hnew
    have HL := Lib.hid hbl
    have HZ := Lib.hid hzl
    have HS := Lib.hid hsrc
    have H1 := Lib.hid h1
    clear hblow hnew hbl hzl hsrc h1 hlen
    go_enter Tryz.func140, Tryz.ntmps140
    go_wp2_with (with_reducible refine wpList_copy_own rfl (.tmp 32) (.tmp 41) 26 26 rfl 5 Tryz.underlying26 u8_size w.heap.size 0 512 512 ⟨sb, so, none⟩ 512 c rfl rfl zs.toArray 5 HN.out cs ?_ HS.out ?_ H1.out ?_)
    · rw [HL.out]
    · simp [HL.out, HZ.out]
    go_ret2
    refine ⟨rfl, below_setRow HB.out (Nat.le_refl _) _, ?_⟩
    rw [setRow_heap _ _ _ _ _ _ HN.out]
    have := Hfin.out
    simp only [List.take_zero, List.nil_append, Nat.zero_add] at this ⊢
    rw [this]
end Go.Proofs.YtmbfenkmabdokaaGreatDoor

namespace Go
section
variable {P : Program} {ops : Array Oper} {Q : Exit → Act → World → Prop} {md : Region.Mode} {S : World → Prop} {last : Nat}

/-- Whatever order is picked; S holds behind each operation but the last one. -/
def wpAnyI (P : Program) (md : Region.Mode) (ops : Array Oper) (Q : Exit → Act → World → Prop) (S : World → Prop) (last : Nat) : Nat → Array Bool → Act → World → Prop
  | 0, l, a, w => Region.ready md ops l = [] ∧ Q .normal a w
  | n + 1, l, a, w => (Region.ready md ops l = [] → Q .normal a w) ∧
      ∀ i ∈ Region.ready md ops l, wpOp P ops Q i (fun a' w' => (i ≠ last → S w') ∧ wpAnyI P md ops Q S last n (l.setIfInBounds i true) a' w') a w

theorem wpAny_of_I : ∀ (n : Nat) (l : Array Bool) (a : Act) (w : World), wpAnyI P md ops Q S last n l a w → wpAny P md ops Q n l a w
  | 0, _, _, _, h => h
  | n + 1, _, _, _, h => ⟨h.1, fun i hi => wpOp_mono (fun a' w' h' => wpAny_of_I n _ a' w' h'.2) (h.2 i hi)⟩

/-- does the last one wait for number i? -/
def waitsB (md : Region.Mode) (ops : Array Oper) (last i : Nat) : Bool := ((ops[last]?).map fun o => o.after.any fun e => Region.binds md e && e.on == i).getD false

theorem not_last {i : Nat} {l : Array Bool} (hw : waitsB md ops last i = true) (hi : i ∈ Region.ready md ops l) : ¬ last ∈ Region.ready md ops l := by
  intro hl
  unfold waitsB at hw
  obtain ⟨_, o, ho, hall⟩ := mem_ready.1 hl
  rw [ho] at hw
  simp only [Option.map_some, Option.getD_some] at hw
  obtain ⟨e, he, hb⟩ := Array.any_eq_true'.1 hw
  simp only [Bool.and_eq_true, beq_iff_eq] at hb
  have h1 := hall e he hb.1
  have h0 := (mem_ready.1 hi).1
  rw [hb.2] at h1
  rcases Nat.lt_or_ge i l.size with h' | h'
  · simp [h'] at h0 h1; rw [h0] at h1; cases h1
  · simp [Array.getElem?_eq_none h'] at h1

theorem wpAnyI_first {i : Nat} {oi : Oper} {v : Value} (hi : ops[i]? = some oi) (hsel : ∀ (j : Nat) (o : Oper) cs b, ops[j]? = some o → o.op ≠ .select cs b)
    (hQ : ∀ c a w, Q (.panic c) (a.put oi.dst v) w → Q (.panic c) a w) (hw : ∀ l : Array Bool, i ∈ Region.ready md ops l → ¬ last ∈ Region.ready md ops l) :
    ∀ (n : Nat) (l : Array Bool) (a : Act) (w : World),
      (∀ j oj, ops[j]? = some oj → j ≠ i → l.getD j true = false → (∀ e ∈ oj.after, Region.binds md e = true → e.on ≠ i) → oi.apart ops oj = true) →
      i ∈ Region.ready md ops l → YieldsIf P ops S oi v a → S w →
      wpAnyI P md ops Q S last n (l.setIfInBounds i true) (a.put oi.dst v) w → wpAnyI P md ops Q S last (n + 1) l a w := by
  intro n
  induction n with
  | zero =>
    intro l a w _ hr hy hS H
    refine ⟨fun h => (by rw [h] at hr; cases hr), fun j hj => ?_⟩
    by_cases hji : j = i
    · subst hji; exact hy.wpOp hi hS ⟨fun _ => hS, H⟩
    · have := ready_mono hj hji
      rw [H.1] at this
      cases this
  | succ n ih =>
    intro l a w hfree hr hy hS H
    refine ⟨fun h => (by rw [h] at hr; cases hr), fun j hj => ?_⟩
    by_cases hji : j = i
    · subst hji; exact hy.wpOp hi hS ⟨fun _ => hS, H⟩
    · have hjl : j ≠ last := fun e => hw _ hr (e ▸ hj)
      have h1 := H.2 j (ready_mono hj hji)
      obtain ⟨hjun, oj, hoj, hall⟩ := mem_ready.1 hj
      have hnot : ∀ e ∈ oj.after, Region.binds md e = true → e.on ≠ i := fun e he hb heq => by
        have h1 := hall e he hb
        have h0 := (mem_ready.1 hr).1
        rw [heq] at h1
        rcases Nat.lt_or_ge i l.size with h' | h'
        · simp [h'] at h0 h1; rw [h0] at h1; cases h1
        · simp [Array.getElem?_eq_none h'] at h1
      have h2 := wpOp_putIf hoj (hfree j oj hoj hji hjun hnot) (fun cs b => hsel i oi cs b hi) (fun cs b => hsel j oj cs b hoj) hQ hy h1
      refine wpOp_mono (fun a' w' h3 => ⟨h3.2.1, ih (l.setIfInBounds j true) a' w' ?_ (ready_mono hr (Ne.symm hji)) h3.1 (h3.2.1 hjl) ?_⟩) h2
      · intro k ok hk hki hun hno
        refine hfree k ok hk hki ?_ hno
        by_cases hjk : j = k
        · subst hjk; exact hjun
        · rw [getD_set_ne true hjk] at hun; exact hun
      · rw [Array.setIfInBounds_comm _ _ hji]
        exact h3.2.2

/-- take number i first -/
theorem wpAnyI_take (i : Nat) {oi : Oper} {v : Value} {n : Nat} {l : Array Bool} {a : Act} {w : World} (hi : ops[i]? = some oi)
    (hs : Region.noSelect ops = true) (hf : Region.free md ops l i = true) (hr : (Region.ready md ops l).contains i = true) (hw : waitsB md ops last i = true)
    (hQ : ∀ c a w, Q (.panic c) (a.put oi.dst v) w → Q (.panic c) a w) (hy : YieldsIf P ops S oi v a) (hS : S w)
    (h : wpAnyI P md ops Q S last n (l.setIfInBounds i true) (a.put oi.dst v) w) : wpAnyI P md ops Q S last (n + 1) l a w :=
  wpAnyI_first hi (Region.noSelect_spec hs) hQ (fun _ h => not_last hw h) n l a w (Region.free_spec hi hf) (by simpa using hr) hy hS h

theorem not_none {l : Array Bool} (hl : ops[last]? = none) : ¬ last ∈ Region.ready md ops l := by
  intro h
  obtain ⟨_, o, ho, _⟩ := mem_ready.1 h
  rw [hl] at ho; cases ho

/-- take number i first; S holds behind every operation ('last' is none of them) -/
theorem wpAnyS_take (i : Nat) {oi : Oper} {v : Value} {n : Nat} {l : Array Bool} {a : Act} {w : World} (hi : ops[i]? = some oi)
    (hs : Region.noSelect ops = true) (hf : Region.free md ops l i = true) (hr : (Region.ready md ops l).contains i = true) (hl : ops[last]? = none)
    (hQ : ∀ c a w, Q (.panic c) (a.put oi.dst v) w → Q (.panic c) a w) (hy : YieldsIf P ops S oi v a) (hS : S w)
    (h : wpAnyI P md ops Q S last n (l.setIfInBounds i true) (a.put oi.dst v) w) : wpAnyI P md ops Q S last (n + 1) l a w :=
  wpAnyI_first hi (Region.noSelect_spec hs) hQ (fun _ _ => not_none hl) n l a w (Region.free_spec hi hf) (by simpa using hr) hy hS h

/-- the one that may come up -/
theorem wpAnyI_one (i : Nat) {n : Nat} {l : Array Bool} {a : Act} {w : World} (hr : Region.ready md ops l = [i])
    (h : wpOp P ops Q i (fun a' w' => (i ≠ last → S w') ∧ wpAnyI P md ops Q S last n (l.setIfInBounds i true) a' w') a w) : wpAnyI P md ops Q S last (n + 1) l a w :=
  ⟨fun h0 => (by rw [hr] at h0; cases h0), fun j hj => (by rw [hr] at hj; simp at hj; subst hj; exact h)⟩

theorem wpAnyI_done {l : Array Bool} {a : Act} {w : World} (hr : Region.ready md ops l = []) (h : Q .normal a w) : ∀ n, wpAnyI P md ops Q S last n l a w
  | 0 => ⟨hr, h⟩
  | _ + 1 => ⟨fun _ => h, by rw [hr]; simp⟩

theorem wp_region_I {id : Nat} {a : Act} {w : World} (hm : P.follows .mixedOrders = true) (S : World → Prop) (last : Nat)
    (h : wpAnyI P .any ops Q S last ops.size (Array.replicate ops.size false) a w.drew) : (Code.region id ops true).wp P Q a w :=
  wp_region_any hm (wpAny_of_I _ _ _ _ h)
end
end Go

namespace Go.Proofs.YtmbfenkmabdokaaGreatDoor
open Go.RowKit Go.Mp

/-- what a sector reads as hangs on rows of bytes alone -/
theorem SecV.keep {w w' : World} {v : Value} {l : Bytes} (h : SecV w v l) (k : ∀ (b : Nat) (cs : Array Value) (fz : Nat × Nat), w.heap[b]? = some (Obj.cells cs 5 fz) → w'.heap[b]? = w.heap[b]?) : SecV w' v l := by
  obtain ⟨A, c, h1, h2, h3, h4, h5⟩ := h
  refine ⟨A, c, h1, h2, h3, ?_, fun a ha => ?_⟩
  · rcases h4 with h4 | ⟨b, o, hA, h4⟩
    · exact .inl h4
    · obtain ⟨cs, fz, h6⟩ := h5 _ hA
      refine .inr ⟨b, o, hA, fun i hi => ?_⟩
      rw [World.cell?_of_block (w := w) (a := ⟨b, o + i, none⟩) (k b cs fz h6)]; exact h4 i hi
  · obtain ⟨cs, fz, h6⟩ := h5 a ha
    exact ⟨cs, fz, by rw [k _ cs fz h6]; exact h6⟩

theorem own_ne {w : World} {B e sz n k : Nat} {v : Value} {xs : List Value} (h : w.ownsRow B e sz v n xs) {o : Obj} (hk : w.heap[k]? = some o) (hne : ∀ cs fz, o ≠ .cells cs e fz) : v.ownBlock ≠ some k := by
  rcases h.2 with ⟨rfl, _⟩ | ⟨g, cap, cur, rfl, _, hg, _⟩
  · simp [Value.ownBlock]
  · simp only [Value.ownBlock, ne_eq, Option.some.injEq]
    rintro rfl
    rw [hk] at hg
    exact hne _ _ (Option.some.inj hg)
theorem own_shape {w : World} {B e sz n : Nat} {v : Value} {xs : List Value} (h : w.ownsRow B e sz v n xs) (hn : 0 < n) : ∃ g cap, v = .slice (some ⟨g, 0, none⟩) n cap := by
  rcases h.2 with ⟨rfl, h0⟩ | ⟨g, cap, cur, rfl, _⟩
  · omega
  · exact ⟨g, cap, rfl⟩

theorem ownsRow_heap {w w' : World} {B e n sz : Nat} {v : Value} {xs : List Value} (h : w.ownsRow B e sz v n xs) (k : ∀ b, v.ownBlock = some b → w'.heap[b]? = w.heap[b]?) : w'.ownsRow B e sz v n xs := by
  refine ⟨h.1, ?_⟩
  rcases h.2 with h2 | ⟨g, cap, cur, rfl, hg, hh, r⟩
  · exact .inl h2
  · exact .inr ⟨g, cap, cur, rfl, hg, by rw [k g rfl]; exact hh, r⟩
theorem wcells_app (ws : List (Value × Value)) (a b : Value) : wcells (ws ++ [(a, b)]) = wcells ws ++ [a, b] := by simp [wcells]
theorem info_write : ∃ i, Tryz.prog.info? 206 = some i ∧ i.zero = some (.agg #[.int .i64 0, .slice none 0 0]) ∧ i.size = 2 ∧ i.bytes = 32 := by
  have h : (Tryz.prog.info? 206).map (fun i => (i.zero, i.size, i.bytes)) = some (some (.agg #[.int .i64 0, .slice none 0 0]), 2, 32) := by kernel_rfl
  cases hi : Tryz.prog.info? 206 with
  | none => rw [hi] at h; cases h
  | some i => rw [hi] at h; simp at h; exact ⟨i, rfl, h.1, h.2.1, h.2.2⟩

set_option maxRecDepth 100000 in
set_option maxHeartbeats 800000 in
theorem Write1_disk (w : World) (bA bd ba d bx B N many W k : Nat) (D : Nat → Bytes) (hd : DiskP w d bx) (h : DiskAt w B N bx many W D) (hW : W < 1073741824) (hk : k < many) (A : Option Addr) (c : Nat) (l : Bytes) (hl : SecV w (.slice A 512 c) l) (hlen : l.length = 512)
    (HA : w.heap[bA]? = some (.cells #[.slice A 512 c] 26 (0, 0))) (Hd : w.heap[bd]? = some (.cells #[.pointer (some ⟨d, 0, none⟩)] 71 (0, 0))) (Ha : w.heap[ba]? = some (.cells #[.int .i64 k] 3 (0, 0))) :
    Calls Tryz.prog 138 #[.pointer (some ⟨bA, 0, none⟩), .pointer (some ⟨bd, 0, none⟩), .pointer (some ⟨ba, 0, none⟩)] w fun e w' =>
      e = .returned (.tuple #[]) ∧ DiskAt w' B N bx many (W + 1) (fun i => if i = k then l else D i) ∧ Kp (DF B N w) w w' := by
  obtain ⟨hlo, hhi, hroom, sm, nm, wv, safe, now, ws, hb, hsm, hnm, hne, hsafe, hnow, hwv, hwl, hws, hD⟩ := h
  have c0 := hd.cell
  have c2 : w.cell? ⟨bx, 2, none⟩ = some (.map (some nm)) := by simp [World.cell?, hb]
  have hdr : Below w.heap.size w w.drew := (Below.refl _ _).drew
  have cA : w.cell? ⟨bA, 0, none⟩ = some (.slice A 512 c) := by simp [World.cell?, HA]
  have cd : w.cell? ⟨bd, 0, none⟩ = some (.pointer (some ⟨d, 0, none⟩)) := by simp [World.cell?, Hd]
  have ca : w.cell? ⟨ba, 0, none⟩ = some (.int .i64 k) := by simp [World.cell?, Ha]
  obtain ⟨o, hup, hnow2⟩ := run_update (P := Tryz.prog) 126 3 26 Tryz.underlying126 Tryz.underlying3 (hnow.keep (w' := w.drew) rfl) (k : Int) (.slice A 512 c)
  have hup : (Instr.mapUpdate 126 (.map (some nm)) (.int .i64 k) (.slice A 512 c)).run Tryz.prog w.drew = .ok () (put w.drew nm o) := hup
  have gg := put_grown w.drew nm o
  have gs : (put w.drew nm o).heap.size = w.heap.size := put_size w.drew nm o
  have hnmk : ∃ es ck, w.heap[nm]? = some (.map es ck) := by obtain ⟨es, ck, hh⟩ := hnow; exact ⟨es, ck, hh.block⟩
  have hcell : ∀ b o' v, w.cell? ⟨b, o', none⟩ = some v → (put w.drew nm o).cell? ⟨b, o', none⟩ = some v := fun b o' v hv => by
    have hbn : b ≠ nm := by
      rintro rfl
      obtain ⟨es, ck, hh⟩ := hnmk
      simp [World.cell?, hh] at hv
    rw [World.cell?_of_block (w := w.drew) (gg.block b (lt_of_cell hv) (by simpa using hbn))]; exact hv
  have hheap : ∀ b o', w.heap[b]? = some o' → b ≠ nm → (put w.drew nm o).heap[b]? = some o' := fun b o' hv hbn => by
    rw [gg.block b (lt_of_heap hv) (by simpa using hbn)]; exact hv
  have hbn : bx ≠ nm := by rintro rfl; obtain ⟨es, ck, hh⟩ := hnmk; rw [hb] at hh; cases hh
  have pA := hcell _ _ _ cA
  have pd := hcell _ _ _ cd
  have pa := hcell _ _ _ ca
  have p0 := hcell _ _ _ c0
  have pb := hheap _ _ hb hbn
  have hwv2 : (put w.drew nm o).ownsRow B 206 2 wv ws.length (wcells ws) := by
    refine (ownsRow_below hwv hdr).kept gg (.inr ?_)
    obtain ⟨es, ck, hh⟩ := hnmk
    exact own_ne hwv hh (by intro _ _ h; cases h)
  have hsafe2 : Mp.Is (put w.drew nm o) sm safe := hsafe.keep (by rw [gg.block sm (by obtain ⟨_, _, hh⟩ := hsafe; exact lt_of_heap hh.block) (by simpa using hne)]; rfl)
  have hu8 : ∀ (b : Nat) (cs : Array Value) (fz : Nat × Nat), w.heap[b]? = some (Obj.cells cs 5 fz) → (put w.drew nm o).heap[b]? = w.heap[b]? := fun b cs fz hh => by
    have : b ≠ nm := by rintro rfl; obtain ⟨es, ck, h2⟩ := hnmk; rw [hh] at h2; cases h2
    rw [hheap b _ hh this, hh]
  have hD2 : ∀ i, i < many → (D i).length = 512 ∧ match Mp.get now (i : Int) with | none => D i = zeros | some v => SecV (put w.drew nm o) v (D i) := fun i hi => by
    refine ⟨(hD i hi).1, ?_⟩
    have := (hD i hi).2
    cases hg : Mp.get now (i : Int) with
    | none => rw [hg] at this; exact this
    | some v => rw [hg] at this; exact SecV.keep this hu8
  have hl2 : SecV (put w.drew nm o) (.slice A 512 c) l := hl.keep hu8
  have hkp : Kp (DF B N w) w (put w.drew nm o) := ⟨gg.os, gg.tape, gg.output, gg.size, fun i hi hf => gg.block i hi (by
    simp only [ne_eq, Option.some.injEq]
    rintro rfl
    exact hf ⟨hnm.1, .inl hnm.2⟩)⟩
  have qA := hheap _ _ HA (by rintro rfl; obtain ⟨es, ck, h2⟩ := hnmk; rw [HA] at h2; cases h2)
  have qd := hheap _ _ Hd (by rintro rfl; obtain ⟨es, ck, h2⟩ := hnmk; rw [Hd] at h2; cases h2)
  have qa := hheap _ _ Ha (by rintro rfl; obtain ⟨es, ck, h2⟩ := hnmk; rw [Ha] at h2; cases h2)
  have q0 := hheap _ _ hd (by rintro rfl; obtain ⟨es, ck, h2⟩ := hnmk; have h3 : w.heap[d]? = _ := hd; rw [h3] at h2; cases h2)
  have QA := Lib.hid qA; have Qd := Lib.hid qd; have Qa := Lib.hid qa; have Q0 := Lib.hid q0
  have hdF := hd
  clear qA qd qa q0 hu8 HA Hd Ha hd
  have HD2 := Lib.hid hD2; have Hl2 := Lib.hid hl2; have Hkp := Lib.hid hkp; have Hnow2 := Lib.hid hnow2; have Hsafe2 := Lib.hid hsafe2; have Hwv2 := Lib.hid hwv2; have Hpb := Lib.hid pb; have Hws := Lib.hid hws
  clear hD2 hl2 hkp hnow2 hsafe2 hwv2 hD hl hnow hsafe hwv hcell hheap gg hdr hnmk hws
  go_enter Tryz.func138, Tryz.ntmps138
  go_wp2
  go_region
  have p5 : (put w.drew nm o).cell? ⟨bx, 3, none⟩ = some wv := by simp [World.cell?, Hpb.out]
  clear hup c0 c2 cA cd ca hb
  generalize put w.drew nm o = w2 at *
  obtain ⟨iw, hiw, hzw, hsw, hbw⟩ := info_write
  have p6 : w2.frozen? ⟨bx, 3, none⟩ = false := by simp [World.frozen?, Hpb.out]
  have Hgs := Lib.hid gs
  clear gs
  have hbl : bx < w2.heap.size := lt_of_heap Hpb.out
  have l1 : bA < w2.heap.size := lt_of_cell pA
  have l2 : bd < w2.heap.size := lt_of_cell pd
  have l3 : ba < w2.heap.size := lt_of_cell pa
  have l4 : d < w2.heap.size := lt_of_cell p0
  have hbxne : wv.ownBlock ≠ some bx := own_ne Hwv2.out Hpb.out (by intro _ _ h; simp at h)
  have Hne := Lib.hid hbxne
  clear hbxne
  have hown2 : (w2.alloc (Obj.cells #[Value.int IntKind.i64 k, Value.slice A 512 c] 206)).drew.ownsRow B 206 2 wv ws.length (wcells ws) := ownsRow_below (Hwv2.out.alloc _) (Below.refl _ _).drew
  have hsrc2 : Src Tryz.prog 2 127 (.slice (some ⟨w2.heap.size, 0, none⟩) 1 1) 1 [.int .i64 k, .slice A 512 c] (w2.alloc (Obj.cells #[Value.int IntKind.i64 k, Value.slice A 512 c] 206)).drew := by
    refine Src.ofSlice _ Tryz.underlying127 _ _ _ _ rfl (fun j u hu => ?_) (by simp [Value.oneCell'])
    rw [Addr.add_lit, World.cell?_drew, World.cell?_alloc_at _ _ _ _ rfl, Nat.zero_add]
    simpa using hu
  have hbB : B ≤ (w2.alloc (Obj.cells #[Value.int IntKind.i64 k, Value.slice A 512 c] 206)).drew.heap.size := by
    have : B ≤ w2.heap.size := by omega
    simp; omega
  have ne1 : bA ≠ bx := by rintro rfl; simp [World.cell?, Hpb.out] at pA
  have ne2 : bd ≠ bx := by rintro rfl; simp [World.cell?, Hpb.out] at pd
  have ne3 : ba ≠ bx := by rintro rfl; simp [World.cell?, Hpb.out] at pa; omega
  have ne4 : d ≠ bx := by rintro rfl; simp [World.cell?, Hpb.out] at p0
  have hafter : ∀ w3, (w2.alloc (Obj.cells #[Value.int IntKind.i64 k, Value.slice A 512 c] 206)).drew.grownBy w3 wv.ownBlock → w3.cell? ⟨bx, 3, none⟩ = some wv ∧ w3.frozen? ⟨bx, 3, none⟩ = false ∧
     w3.cell? ⟨bA, 0, none⟩ = some (.slice A 512 c) ∧ w3.cell? ⟨bd, 0, none⟩ = some (.pointer (some ⟨d, 0, none⟩)) ∧ w3.cell? ⟨ba, 0, none⟩ = some (.int .i64 k) ∧ w3.cell? ⟨d, 0, none⟩ = some (.pointer (some ⟨bx, 0, none⟩)) := fun w3 hg => by
    have hk : ∀ (b : Nat) (o' : Obj), w2.heap[b]? = some o' → (∀ (cs : Array Value) (fz : Nat × Nat), o' ≠ Obj.cells cs 206 fz) → w3.heap[b]? = w2.heap[b]? := fun b o' hh hne => by
      have hlt : b < w2.heap.size := lt_of_heap hh
      rw [hg.block b (by simp; omega) (Ne.symm (own_ne Hwv2.out hh hne))]
      exact Below.heap_alloc w2 _ b hlt
    refine ⟨?_, ?_, ?_, ?_, ?_, ?_⟩
    · rw [World.cell?_of_block (w := w2) (a := ⟨bx, 3, none⟩) (hk bx _ Hpb.out (by intro _ _ h; simp at h))]; exact p5
    · rw [World.frozen?_of_block (w := w2) (a := ⟨bx, 3, none⟩) (hk bx _ Hpb.out (by intro _ _ h; simp at h))]; exact p6
    · rw [World.cell?_of_block (w := w2) (a := ⟨bA, 0, none⟩) (hk bA _ QA.out (by intro _ _ h; simp at h))]; exact pA
    · rw [World.cell?_of_block (w := w2) (a := ⟨bd, 0, none⟩) (hk bd _ Qd.out (by intro _ _ h; simp at h))]; exact pd
    · rw [World.cell?_of_block (w := w2) (a := ⟨ba, 0, none⟩) (hk ba _ Qa.out (by intro _ _ h; simp at h))]; exact pa
    · rw [World.cell?_of_block (w := w2) (a := ⟨d, 0, none⟩) (hk d _ Q0.out (by intro _ _ h; simp at h))]; exact p0
  have Hown2 := Lib.hid hown2; have Hsrc2 := Lib.hid hsrc2; have HbB := Lib.hid hbB; have Hafter := Lib.hid hafter
  clear hown2 hsrc2 hbB hafter
  go_wp2
  obtain ⟨S, hSd⟩ : ∃ S : World → Prop, ∀ w', S w' ↔ (w'.cell? ⟨bA, 0, none⟩ = some (.slice A 512 c) ∧ w'.cell? ⟨bd, 0, none⟩ = some (.pointer (some ⟨d, 0, none⟩)) ∧ w'.cell? ⟨ba, 0, none⟩ = some (.int .i64 k) ∧ w'.cell? ⟨d, 0, none⟩ = some (.pointer (some ⟨bx, 0, none⟩)) ∧ w'.cell? ⟨bx, 3, none⟩ = some wv) := ⟨_, fun _ => Iff.rfl⟩
  have hS : S w2.drew := (hSd _).2 ⟨pA, pd, pa, p0, p5⟩
  have HSd := Lib.hid hSd
  clear hSd
  refine wp_region_I (by kernel_rfl) S 18 ?_
  refine wpAnyI_take 0 (v := .pointer (some ⟨d, 0, none⟩)) rfl (by kernel_rfl) (by kernel_rfl) (by kernel_rfl) (by kernel_rfl) (fun _ _ _ h => h) (.inl ⟨rfl, fun w' hS' => ?_⟩) hS ?_
  · obtain ⟨r1, r2, r3, r4, r5⟩ := (HSd.out _).1 hS'
    go_simp
  refine wpAnyI_take 1 (v := .pointer (some ⟨d, 0, none⟩)) rfl (by kernel_rfl) (by kernel_rfl) (by kernel_rfl) (by kernel_rfl) (fun _ _ _ h => h) (.inl ⟨rfl, fun w' hS' => ?_⟩) hS ?_
  · obtain ⟨r1, r2, r3, r4, r5⟩ := (HSd.out _).1 hS'
    go_simp
  refine wpAnyI_take 2 (v := .pointer (some ⟨d, 0, none⟩)) rfl (by kernel_rfl) (by kernel_rfl) (by kernel_rfl) (by kernel_rfl) (fun _ _ _ h => h) (.inl ⟨rfl, fun w' hS' => ?_⟩) hS ?_
  · obtain ⟨r1, r2, r3, r4, r5⟩ := (HSd.out _).1 hS'
    go_simp
  refine wpAnyI_take 3 (v := .pointer (some ⟨bx, 0, none⟩)) rfl (by kernel_rfl) (by kernel_rfl) (by kernel_rfl) (by kernel_rfl) (fun _ _ _ h => h) (.inl ⟨rfl, fun w' hS' => ?_⟩) hS ?_
  · obtain ⟨r1, r2, r3, r4, r5⟩ := (HSd.out _).1 hS'
    go_simp
  refine wpAnyI_take 4 (v := .pointer (some ⟨d, 0, none⟩)) rfl (by kernel_rfl) (by kernel_rfl) (by kernel_rfl) (by kernel_rfl) (fun _ _ _ h => h) (.inl ⟨rfl, fun w' hS' => ?_⟩) hS ?_
  · obtain ⟨r1, r2, r3, r4, r5⟩ := (HSd.out _).1 hS'
    go_simp
  refine wpAnyI_take 5 (v := .pointer (some ⟨d, 0, none⟩)) rfl (by kernel_rfl) (by kernel_rfl) (by kernel_rfl) (by kernel_rfl) (fun _ _ _ h => h) (.inl ⟨rfl, fun w' hS' => ?_⟩) hS ?_
  · obtain ⟨r1, r2, r3, r4, r5⟩ := (HSd.out _).1 hS'
    go_simp
  refine wpAnyI_take 6 (v := .pointer (some ⟨d, 0, none⟩)) rfl (by kernel_rfl) (by kernel_rfl) (by kernel_rfl) (by kernel_rfl) (fun _ _ _ h => h) (.inl ⟨rfl, fun w' hS' => ?_⟩) hS ?_
  · obtain ⟨r1, r2, r3, r4, r5⟩ := (HSd.out _).1 hS'
    go_simp
  refine wpAnyI_take 7 (v := .pointer (some ⟨bx, 0, none⟩)) rfl (by kernel_rfl) (by kernel_rfl) (by kernel_rfl) (by kernel_rfl) (fun _ _ _ h => h) (.inl ⟨rfl, fun w' hS' => ?_⟩) hS ?_
  · obtain ⟨r1, r2, r3, r4, r5⟩ := (HSd.out _).1 hS'
    go_simp
  refine wpAnyI_take 8 (v := .pointer (some ⟨bx, 0, none⟩)) rfl (by kernel_rfl) (by kernel_rfl) (by kernel_rfl) (by kernel_rfl) (fun _ _ _ h => h) (.inl ⟨rfl, fun w' hS' => ?_⟩) hS ?_
  · obtain ⟨r1, r2, r3, r4, r5⟩ := (HSd.out _).1 hS'
    go_simp
  refine wpAnyI_take 9 (v := .pointer (some ⟨bx, 3, none⟩)) rfl (by kernel_rfl) (by kernel_rfl) (by kernel_rfl) (by kernel_rfl) (fun _ _ _ h => h) (.inl ⟨rfl, fun w' hS' => ?_⟩) hS ?_
  · obtain ⟨r1, r2, r3, r4, r5⟩ := (HSd.out _).1 hS'
    go_simp
  refine wpAnyI_take 10 (v := wv) rfl (by kernel_rfl) (by kernel_rfl) (by kernel_rfl) (by kernel_rfl) (fun _ _ _ h => h) (.inl ⟨rfl, fun w' hS' => ?_⟩) hS ?_
  · obtain ⟨r1, r2, r3, r4, r5⟩ := (HSd.out _).1 hS'
    go_simp
  refine wpAnyI_take 11 (v := .int .i64 k) rfl (by kernel_rfl) (by kernel_rfl) (by kernel_rfl) (by kernel_rfl) (fun _ _ _ h => h) (.inl ⟨rfl, fun w' hS' => ?_⟩) hS ?_
  · obtain ⟨r1, r2, r3, r4, r5⟩ := (HSd.out _).1 hS'
    go_simp
  refine wpAnyI_take 12 (v := .slice A 512 c) rfl (by kernel_rfl) (by kernel_rfl) (by kernel_rfl) (by kernel_rfl) (fun _ _ _ h => h) (.inl ⟨rfl, fun w' hS' => ?_⟩) hS ?_
  · obtain ⟨r1, r2, r3, r4, r5⟩ := (HSd.out _).1 hS'
    go_simp
  refine wpAnyI_take 13 (v := .agg #[.int .i64 k, .slice A 512 c]) rfl (by kernel_rfl) (by kernel_rfl) (by kernel_rfl) (by kernel_rfl) (fun _ _ _ h => h) (.inl ⟨rfl, fun w' hS' => ?_⟩) hS ?_
  · obtain ⟨r1, r2, r3, r4, r5⟩ := (HSd.out _).1 hS'
    go_simp
  refine wpAnyI_one 14 (by kernel_rfl) (wpOp_step rfl (fun K hK => ?_))
  go_simp
  refine hK _ _ ⟨fun _ => (HSd.out _).2 ⟨(World.cell?_alloc_past _ _ _ l1).trans pA, (World.cell?_alloc_past _ _ _ l2).trans pd, (World.cell?_alloc_past _ _ _ l3).trans pa, (World.cell?_alloc_past _ _ _ l4).trans p0, (World.cell?_alloc_past _ _ _ hbl).trans p5⟩, ?_⟩
  clear hK K
  refine wpAnyI_one 15 (by kernel_rfl) (wpOp_step rfl (fun K hK => ?_))
  refine step_append_src _ rfl (.tmp 22) (.tmp 26) 127 127 rfl B 206 iw _ 2 32 Tryz.underlying127 hiw hzw hsw hbw rfl wv (.slice (some ⟨w2.heap.size, 0, none⟩) 1 1) ws.length (wcells ws) rfl rfl Hown2.out 1 [.int .i64 k, .slice A 512 c] Hsrc2.out ?_ ?_ HbB.out ?_
  · unfold maxLen; omega
  · omega
  intro v3 w3 hown3 hg3
  obtain ⟨g3, cap3, hv3⟩ := own_shape hown3 (Nat.succ_pos _)
  rw [hv3]
  obtain ⟨q5, q6, q1, q2, q3, q4⟩ := Hafter.out w3 hg3
  have hS3 : S w3 := (HSd.out _).2 ⟨q1, q2, q3, q4, q5⟩
  refine hK _ _ ⟨fun _ => hS3, ?_⟩
  clear hK K
  refine wpAnyI_one 16 (by kernel_rfl) (wpOp_step rfl (fun K hK => ?_))
  go_simp
  refine hK _ _ ⟨fun _ => hS3, ?_⟩
  clear hK K
  refine wpAnyI_one 17 (by kernel_rfl) (wpOp_step rfl (fun K hK => ?_))
  go_simp
  refine hK _ _ ⟨fun _ => hS3, ?_⟩
  clear hK K
  refine wpAnyI_one 18 (by kernel_rfl) (wpOp_step rfl (fun K hK => ?_))
  go_simp
  refine hK _ _ ⟨fun h => absurd rfl h, wpAnyI_done (by kernel_rfl) ?_ _⟩
  clear hK K
  go_end0
  have hgr : ∀ (b : Nat) (o' : Obj), w2.heap[b]? = some o' → b ≠ bx → (∀ (cs : Array Value) (fz : Nat × Nat), o' ≠ Obj.cells cs 206 fz) → (w3.setCell ⟨bx, 3, none⟩ (.slice (some ⟨g3, 0, none⟩) (ws.length + 1) cap3)).heap[b]? = some o' := fun b o' hh hb hne => by
    have hlt : b < w2.heap.size := lt_of_heap hh
    rw [Below.heap_setCell _ _ _ _ hb, hg3.block b (by simp; omega) (Ne.symm (own_ne Hwv2.out hh hne))]
    exact (Below.heap_alloc w2 _ b hlt).trans hh
  refine ⟨rfl, ⟨hlo, hhi, hroom, sm, nm, .slice (some ⟨g3, 0, none⟩) (ws.length + 1) cap3, safe, upd now k (.slice A 512 c), ws ++ [(.int .i64 k, .slice A 512 c)], ?_, hsm, hnm, hne, ?_, ?_, ?_, ?_, ?_, ?_⟩, ?_⟩
  · have h3 := (hg3.block bx (by simp; omega) (Ne.symm (own_ne Hwv2.out Hpb.out (by intro _ _ h; simp at h)))).trans ((Below.heap_alloc w2 _ bx hbl).trans Hpb.out)
    simp [World.setCell, Array.getElem?_modify, h3]
  · exact Hsafe2.out.keep (by obtain ⟨_, _, hh⟩ := Hsafe2.out; rw [hgr sm _ hh.block (by rintro rfl; have := hh.block; rw [Hpb.out] at this; cases this) (by intro _ _ h; cases h), hh.block])
  · exact Hnow2.out.keep (by obtain ⟨_, _, hh⟩ := Hnow2.out; rw [hgr nm _ hh.block (by rintro rfl; have := hh.block; rw [Hpb.out] at this; cases this) (by intro _ _ h; cases h), hh.block])
  · rw [wcells_app, List.length_append]
    have h3 := (hg3.block bx (by simp; omega) (Ne.symm (own_ne Hwv2.out Hpb.out (by intro _ _ h; simp at h)))).trans ((Below.heap_alloc w2 _ bx hbl).trans Hpb.out)
    have h4 := own_ne hown3 h3 (by intro _ _ h; simp at h)
    rw [hv3] at hown3 h4
    refine ownsRow_heap hown3 (fun b hb => ?_)
    refine Below.heap_setCell _ _ _ _ ?_
    intro e
    apply h4
    rw [hb, e]
  · simp; omega
  · intro p hp
    rcases List.mem_append.1 hp with hp | hp
    · exact Hws.out p hp
    · simp at hp; subst hp
      exact ⟨⟨_, rfl⟩, ⟨_, _, _, rfl⟩⟩
  · intro i hi
    have hu8 : ∀ (b : Nat) (cs : Array Value) (fz : Nat × Nat), w2.heap[b]? = some (Obj.cells cs 5 fz) → (w3.setCell ⟨bx, 3, none⟩ (.slice (some ⟨g3, 0, none⟩) (ws.length + 1) cap3)).heap[b]? = w2.heap[b]? := fun b cs fz hh => by
      rw [hgr b _ hh (by rintro rfl; rw [Hpb.out] at hh; simp at hh) (by intro _ _ h; simp at h), hh]
    rw [get_upd]
    by_cases e : i = k
    · subst e
      simp only [if_true]
      exact ⟨hlen, Hl2.out.keep hu8⟩
    · have e' : ¬ (i : Int) = (k : Int) := by omega
      simp only [if_neg e, if_neg e']
      refine ⟨(HD2.out i hi).1, ?_⟩
      have := (HD2.out i hi).2
      cases hg : Mp.get now (i : Int) with
      | none => rw [hg] at this; exact this
      | some v => rw [hg] at this; exact SecV.keep this hu8
  · refine DF.trans Hkp.out ⟨hg3.os, hg3.tape, hg3.output, ?_, ?_⟩
    · have := hg3.size; simp [World.setCell] at this ⊢; omega
    · intro b hb hf
      have h1 : b ≠ bx := by rintro rfl; exact hf ⟨hlo, .inl hhi⟩
      have h2 : some b ≠ wv.ownBlock := by
        intro e
        apply hf
        rcases Hwv2.out.2 with ⟨rfl, _⟩ | ⟨g, cap, cur, rfl, hg, hh, _⟩
        · simp [Value.ownBlock] at e
        · simp [Value.ownBlock] at e; subst e
          exact ⟨hg, .inr ⟨_, _, hh⟩⟩
      rw [Below.heap_setCell _ _ _ _ h1, hg3.block b (by simp; omega) h2]
      exact Below.heap_alloc w2 _ b hb
end Go.Proofs.YtmbfenkmabdokaaGreatDoor

namespace Go.Proofs.YtmbfenkmabdokaaGreatDoor
open Go.RowKit Go.Mp

set_option maxRecDepth 100000 in
set_option maxHeartbeats 800000 in
theorem Write_disk (w : World) (d bx B N many W k : Nat) (D : Nat → Bytes) (hd : DiskP w d bx) (h : DiskAt w B N bx many W D) (hW : W < 1073741824) (hk : k < many) (A : Option Addr) (c : Nat) (l : Bytes) (hl : RdB w A l) (hlen : l.length = 512) :
    Calls Tryz.prog 85 #[.pointer (some ⟨d, 0, none⟩), .int .i64 k, .slice A 512 c] w fun e w' =>
      e = .returned .nilIface ∧ DiskAt w' B N bx many (W + 1) (fun i => if i = k then l else D i) ∧ Kp (DF B N w) w w' := by
  have Hat := Lib.hid h
  have hroom := h.room
  obtain ⟨sm, nm, wv, safe, now, ws, hb, _⟩ := h.rest
  clear h
  have c0 := hd.cell
  have c1 : w.cell? ⟨bx, 0, none⟩ = some (.int .i64 many) := by simp [World.cell?, hb]
  have c3 : w.cell? ⟨bx, 7, none⟩ = some (.bool false) := by simp [World.cell?, hb]
  have c5 : w.cell? ⟨bx, 4, none⟩ = some (.bool false) := by simp [World.cell?, hb]
  have hd0 : d < w.heap.size := lt_of_cell c0
  have hb0 : bx < w.heap.size := lt_of_cell c1
  have k2 : decide ((many : Int) ≤ (k : Int)) = false := by simp; omega
  have k3 : decide (many ≤ k) = false := by simp; omega
  have Hlen := Lib.hid hlen
  clear hlen hb
  have Hd := Lib.hid hd
  clear hd
  go_enter Tryz.func85, Tryz.ntmps85
  go_wp2
  go_quiet (fail)
  have hblow : Below w.heap.size w (((w.alloc (Obj.cells #[Value.pointer (some ⟨d, 0, none⟩)] 71)).alloc (Obj.cells #[Value.int IntKind.i64 k] 3)).drewN nq) := by
    exact below_draws (((Below.refl _ _).alloc (Nat.le_refl _) _).alloc (by simp) _) nq
  have hsrc := (hl.below hblow).src c
  have hown := World.ownsRow_nil (((w.alloc (Obj.cells #[Value.pointer (some ⟨d, 0, none⟩)] 71)).alloc (Obj.cells #[Value.int IntKind.i64 k] 3)).drewN nq) w.heap.size 5 1
  obtain ⟨i8, hi8, hz8, hsz8, hby8⟩ := info_u8'
  rw [Hlen.out] at hsrc
  go_wp2_with (at_builtin; refine wpList_append_src _ rfl (.const (.slice none 0 0)) (.tmp 37) 26 26 rfl w.heap.size 5 i8 (.int .u8 0) 1 1 Tryz.underlying26 hi8 hz8 hsz8 hby8 rfl (.slice none 0 0) _ 0 [] rfl rfl hown 512 _ hsrc ?_ ?_ ?_ ?_)
  · unfold maxLen; omega
  · omega
  · simp; omega
  intro v1 w1 hown1 hg1
  have hb1 : Below w.heap.size w w1 := hblow.grown hg1 (by simp; omega) (fun k hk => by simp [Value.ownBlock] at hk)
  have hown1' : OwB w1 w.heap.size v1 l := by rw [OwB, Hlen.out]; simpa using hown1
  have hsec : SecV w1 v1 l := by
    obtain ⟨A1, cc1, hv1, hcc1, hcc2, hr1, ha1⟩ := hown1'.rd
    refine ⟨A1, cc1, hv1, hcc1, hcc2, hr1, fun a ha => ?_⟩
    rcases hown1'.2 with ⟨h0, _⟩ | ⟨g, cap, cur, h0, _, hg, _⟩
    · rw [h0] at hv1; simp at hv1; rw [← hv1.1] at ha; cases ha
    · rw [h0] at hv1; simp at hv1; rw [← hv1.1] at ha; cases ha; exact ⟨_, _, hg⟩
  obtain ⟨A1, cc1, hv1, _⟩ := hown1'.rd
  rw [hv1, Hlen.out]
  rw [hv1, Hlen.out] at hsec
  obtain ⟨f1, f2⟩ := bcell hb1
  have hs1 : w.heap.size + 2 ≤ w1.heap.size := by have := hg1.size; simpa using this
  have E0 : w1.heap[w.heap.size]? = some (.cells #[.pointer (some ⟨d, 0, none⟩)] 71 (0, 0)) := by
    rw [hg1.block w.heap.size (by simp; omega) (by simp [Value.ownBlock])]
    exact (Below.heap_alloc (w.alloc _) _ _ (by simp)).trans (heap_alloc_new w _)
  have E1 : w1.heap[w.heap.size + 1]? = some (.cells #[.int .i64 k] 3 (0, 0)) := by
    rw [hg1.block (w.heap.size + 1) (by simp) (by simp [Value.ownBlock])]
    have := heap_alloc_new (w.alloc (Obj.cells #[Value.pointer (some ⟨d, 0, none⟩)] 71)) (Obj.cells #[Value.int IntKind.i64 k] 3)
    simpa using this
  have e0 : w1.cell? ⟨w.heap.size, 0, none⟩ = some (.pointer (some ⟨d, 0, none⟩)) := by simp [World.cell?, E0]
  have e1 : w1.cell? ⟨w.heap.size + 1, 0, none⟩ = some (.int .i64 k) := by simp [World.cell?, E1]
  have hbW : Below w.heap.size w (w1.alloc (Obj.cells #[Value.slice A1 512 cc1] 26)) := hb1.alloc (by omega) _
  have hbW1 : Below w1.heap.size w1 (w1.alloc (Obj.cells #[Value.slice A1 512 cc1] 26)) := (Below.refl _ _).alloc (Nat.le_refl _) _
  have hcall := Write1_disk (w1.alloc (Obj.cells #[Value.slice A1 512 cc1] 26)) w1.heap.size w.heap.size (w.heap.size + 1) d bx B N many W k D
    ((hbW.block d hd0).trans Hd.out) (Hat.out.below hbW) hW hk A1 cc1 l (hsec.below hbW1) Hlen.out (heap_alloc_new w1 _) ((Below.heap_alloc w1 _ _ (by omega)).trans E0) ((Below.heap_alloc w1 _ _ (by omega)).trans E1)
  have Hcall := Lib.hid hcall
  have HbW := Lib.hid hbW
  clear hsrc hown hown1 hg1 hblow hcall hbW hsec hown1' hbW1 E0 E1 hl
  have s1 : w.heap.size < w1.heap.size := by omega
  have s2 : w.heap.size + 1 < w1.heap.size := by omega
  have s3 : d < w1.heap.size := by omega
  have s4 : bx < w1.heap.size := by omega
  go_wp2_with (first | (go_at_call 138; refine Hcall.out.mono ?_; rintro e w2 ⟨rfl, hat2, hkp2⟩) | (go_at_call 137; go_in))
  refine bodyPost_ret (v := .nilIface) (by simp [results, Tryz.results85, go_sem]) rfl ⟨rfl, hat2, ?_⟩
  exact DF.trans (Kp.of_below HbW.out _) hkp2

theorem wcells_get (ws : List (Value × Value)) (j : Nat) (h : j < ws.length) : (wcells ws)[j * 2]? = some ws[j].1 ∧ (wcells ws)[j * 2 + 1]? = some ws[j].2 := by
  induction ws generalizing j with
  | nil => simp at h
  | cons p ws ih =>
    rcases j with _ | j
    · simp [wcells]
    · have := ih j (by simpa using h)
      simp only [wcells, List.flatMap_cons] at this ⊢
      rw [show (j + 1) * 2 = j * 2 + 2 from by omega, show j * 2 + 2 + 1 = (j * 2 + 1) + 2 from by omega]
      simpa using this

set_option maxRecDepth 100000 in
set_option maxHeartbeats 800000 in
theorem Sync1_disk (w : World) (bd d bx B N many W : Nat) (D : Nat → Bytes) (hd : DiskP w d bx) (h : DiskAt w B N bx many W D) (hW : W < 1073741824)
    (Hd : w.heap[bd]? = some (.cells #[.pointer (some ⟨d, 0, none⟩)] 71 (0, 0))) :
    Calls Tryz.prog 139 #[.pointer (some ⟨bd, 0, none⟩)] w fun e w' =>
      e = .returned (.tuple #[]) ∧ DiskAt w' B N bx many 0 D ∧ Kp (DF B N w) w w' := by
  obtain ⟨hlo, hhi, hroom, sm, nm, wv, safe, now, ws, hb, hsm, hnm, hne, hsafe, hnow, hwv, hwl, hws, hD⟩ := h
  have c0 := hd.cell
  have c1 : w.cell? ⟨bx, 1, none⟩ = some (.map (some sm)) := by simp [World.cell?, hb]
  have c3 : w.cell? ⟨bx, 3, none⟩ = some wv := by simp [World.cell?, hb]
  have cd : w.cell? ⟨bd, 0, none⟩ = some (.pointer (some ⟨d, 0, none⟩)) := by simp [World.cell?, Hd]
  obtain ⟨gA, cap, hwvs⟩ : ∃ gA cap, wv = .slice gA ws.length cap := by
    rcases hwv.2 with ⟨rfl, h0⟩ | ⟨g, cap, cur, rfl, _⟩
    · exact ⟨none, 0, by rw [h0]⟩
    · exact ⟨_, _, rfl⟩
  rw [hwvs] at c3
  go_enter Tryz.func139, Tryz.ntmps139
  go_wp2_with fail
  go_loopw [11] (fun i wr => ∃ j : Nat, j ≤ ws.length ∧ i = .int .i64 j ∧ (∃ safe', Mp.Is (α := Int) wr sm safe') ∧ w.grownBy wr (some sm)) (fun i _ => ws.length - (intOf i).toNat)
  case atStart => exact ⟨0, Nat.zero_le _, rfl, ⟨safe, hsafe⟩, ⟨rfl, rfl, rfl, Nat.le_refl _, fun _ _ _ => rfl⟩⟩
  case round =>
    obtain ⟨j, hj, rfl, ⟨safe', hsafe'⟩, hgr⟩ := hrel
    have hsmk : ∃ es ck, w.heap[sm]? = some (.map es ck) := by obtain ⟨es, ck, hh⟩ := hsafe; exact ⟨es, ck, hh.block⟩
    have hkeep : ∀ (b : Nat) (cs : Array Value) (t : TypeId) (fz : Nat × Nat), w.heap[b]? = some (Obj.cells cs t fz) → wr.heap[b]? = w.heap[b]? := fun b cs t fz hh => by
      refine hgr.block b (lt_of_heap hh) ?_
      simp only [ne_eq, Option.some.injEq]
      rintro rfl
      obtain ⟨es, ck, h2⟩ := hsmk
      rw [hh] at h2; cases h2
    have d0 : wr.cell? ⟨bd, 0, none⟩ = some (.pointer (some ⟨d, 0, none⟩)) := by rw [World.cell?_of_block (w := w) (a := ⟨bd, 0, none⟩) (hkeep _ _ _ _ Hd)]; exact cd
    have d1 : wr.cell? ⟨d, 0, none⟩ = some (.pointer (some ⟨bx, 0, none⟩)) := by rw [World.cell?_of_block (w := w) (a := ⟨d, 0, none⟩) (hkeep _ _ _ _ hd)]; exact c0
    have d2 : wr.cell? ⟨bx, 1, none⟩ = some (.map (some sm)) := by rw [World.cell?_of_block (w := w) (a := ⟨bx, 1, none⟩) (hkeep _ _ _ _ hb)]; exact c1
    have db := (hkeep _ _ _ _ hb).trans hb
    by_cases hlt : j < ws.length
    · obtain ⟨g, cap', cur, hv, _, hg, hn, hm, hs, ht⟩ := hwv.2.resolve_left (fun h => by omega)
      obtain ⟨rfl, rfl⟩ : gA = some ⟨g, 0, none⟩ ∧ cap = cap' := by rw [hv] at hwvs; simp at hwvs; exact ⟨hwvs.1.symm, hwvs.2.symm⟩
      obtain ⟨e1, e2⟩ := wcells_get ws j hlt
      obtain ⟨⟨n1, hn1⟩, A1, l1, cc1, hA1⟩ := hws ws[j] (List.getElem_mem hlt)
      rw [hn1] at e1
      rw [hA1] at e2
      rw [hv] at hwv
      have x1 : wr.cell? ⟨g, j * 2, none⟩ = some (.int .i64 n1) := by
        rw [World.cell?_of_block (w := w) (a := ⟨g, j * 2, none⟩) (hkeep _ _ _ _ hg), World.ownsRow.cellAt (w := w) hwv (j * 2) (by omega)]; exact e1
      have x2 : wr.cell? ⟨g, j * 2 + 1, none⟩ = some (.slice A1 l1 cc1) := by
        rw [World.cell?_of_block (w := w) (a := ⟨g, j * 2 + 1, none⟩) (hkeep _ _ _ _ hg), World.ownsRow.cellAt (w := w) hwv (j * 2 + 1) (by omega)]; exact e2
      have hsm1 : sm < wr.heap.size := by obtain ⟨_, _, hh⟩ := hsafe'; exact lt_of_heap hh.block
      obtain ⟨o, hup, his⟩ := run_update (P := Tryz.prog) (w := (wr.alloc (Obj.cells #[.int .i64 n1, .slice A1 l1 cc1] 206)).drew) 126 3 26 Tryz.underlying126 Tryz.underlying3 (hsafe'.keep (Below.heap_alloc wr _ sm hsm1)) (n1 : Int) (.slice A1 l1 cc1)
      have hup : (Instr.mapUpdate 126 (.map (some sm)) (.int .i64 n1) (.slice A1 l1 cc1)).run Tryz.prog (wr.alloc (Obj.cells #[.int .i64 n1, .slice A1 l1 cc1] 206)).drew = .ok () (put (wr.alloc (Obj.cells #[.int .i64 n1, .slice A1 l1 cc1] 206)).drew sm o) := hup
      have z1 : bd < wr.heap.size := lt_of_cell d0
      have z2 : d < wr.heap.size := lt_of_cell d1
      have z3 : bx < wr.heap.size := lt_of_cell d2
      have gg := put_grown (wr.alloc (Obj.cells #[.int .i64 n1, .slice A1 l1 cc1] 206)).drew sm o
      have gs := put_size (wr.alloc (Obj.cells #[.int .i64 n1, .slice A1 l1 cc1] 206)).drew sm o
      have Hgr2 : w.grownBy (put (wr.alloc (Obj.cells #[.int .i64 n1, .slice A1 l1 cc1] 206)).drew sm o) (some sm) := by
        refine ⟨hgr.os, hgr.tape, hgr.output, ?_, fun b hb1 hb2 => ?_⟩
        · rw [gs]; have := hgr.size; simp; omega
        · have hlb : b < wr.heap.size := Nat.lt_of_lt_of_le hb1 hgr.size
          rw [gg.block b (by simp; omega) hb2]
          exact (Below.heap_alloc wr _ b hlb).trans (hgr.block b hb1 hb2)
      have Hgr2 := Lib.hid Hgr2
      have His := Lib.hid his
      have Hne := Lib.hid hne; have Hwv := Lib.hid hwv; have HD := Lib.hid hD; have Hnow := Lib.hid hnow; have Hws := Lib.hid hws
      clear gg gs hkeep hgr his hD hnow hws hsafe hsafe' ht e1 e2 hwv hsmk
      go_wp2
      go_region
      go_wp2
      exact ⟨⟨j + 1, by omega, by go_num, ⟨_, His.out⟩, Hgr2.out⟩, by simp [intOf]; omega⟩
    · have d3 : wr.cell? ⟨bx, 3, none⟩ = some (.slice gA ws.length cap) := by rw [World.cell?_of_block (w := w) (a := ⟨bx, 3, none⟩) (hkeep _ _ _ _ hb)]; exact c3
      have d4 : wr.frozen? ⟨bx, 3, none⟩ = false := by simp [World.frozen?, db]
      have Hne := Lib.hid hne; have HD := Lib.hid hD; have Hnow := Lib.hid hnow; have Hkeep := Lib.hid hkeep; have Hgr := Lib.hid hgr; have Hsafe := Lib.hid hsafe'; have Hdb := Lib.hid db; have Hbb := Lib.hid hb
      clear hwv hws hD hnow hsafe hsafe' hkeep hgr db hsmk hb
      go_wp2
      go_end0
      have hnw : wr.heap[nm]? = w.heap[nm]? := Hgr.out.block nm (by obtain ⟨_, _, hh⟩ := Hnow.out; exact lt_of_heap hh.block) (by simp; exact Ne.symm Hne.out)
      have hn1 : nm ≠ bx := by rintro rfl; obtain ⟨_, _, hh⟩ := Hnow.out; have := hh.block; rw [Hbb.out] at this; cases this
      have hs1 : sm ≠ bx := by rintro rfl; obtain ⟨_, _, hh⟩ := Hsafe.out; have := hh.block; rw [Hdb.out] at this; cases this
      refine ⟨rfl, ⟨hlo, hhi, hroom, sm, nm, .slice none 0 0, safe', now, [], ?_, hsm, hnm, Hne.out, ?_, ?_, World.ownsRow_nil _ _ _ _, Nat.le_refl _, by simp, ?_⟩, ?_⟩
      · simp [World.setCell, Array.getElem?_modify, Hdb.out]
      · exact Hsafe.out.keep (Below.heap_setCell _ _ _ _ hs1)
      · exact Hnow.out.keep ((Below.heap_setCell _ _ _ _ hn1).trans hnw)
      · intro i hi
        refine ⟨(HD.out i hi).1, ?_⟩
        have := (HD.out i hi).2
        cases hg : Mp.get now (i : Int) with
        | none => rw [hg] at this; exact this
        | some v =>
          rw [hg] at this
          refine SecV.keep this (fun b cs fz hh => ?_)
          have : b ≠ bx := by rintro rfl; rw [Hbb.out] at hh; simp at hh
          exact (Below.heap_setCell _ _ _ _ this).trans (Hkeep.out b cs _ fz hh)
      · refine ⟨Hgr.out.os, Hgr.out.tape, Hgr.out.output, ?_, fun b hb1 hf => ?_⟩
        · have := Hgr.out.size; simpa [World.setCell] using this
        · have h1 : b ≠ bx := by rintro rfl; exact hf ⟨hlo, .inl hhi⟩
          have h2 : b ≠ sm := by rintro rfl; exact hf ⟨hsm.1, .inl hsm.2⟩
          exact (Below.heap_setCell _ _ _ _ h1).trans (Hgr.out.block b hb1 (by simpa using h2))

set_option maxRecDepth 100000 in
set_option maxHeartbeats 400000 in
theorem Sync_disk (w : World) (d bx B N many W : Nat) (D : Nat → Bytes) (hd : DiskP w d bx) (h : DiskAt w B N bx many W D) (hW : W < 1073741824) :
    Calls Tryz.prog 86 #[.pointer (some ⟨d, 0, none⟩)] w fun e w' =>
      e = .returned .nilIface ∧ DiskAt w' B N bx many 0 D ∧ Kp (DF B N w) w w' := by
  have Hat := Lib.hid h
  obtain ⟨sm, nm, wv, safe, now, ws, hb, _⟩ := h.rest
  clear h
  have c0 := hd.cell
  have c3 : w.cell? ⟨bx, 7, none⟩ = some (.bool false) := by simp [World.cell?, hb]
  have c5 : w.cell? ⟨bx, 4, none⟩ = some (.bool false) := by simp [World.cell?, hb]
  have hd0 : d < w.heap.size := lt_of_cell c0
  have hb0 : bx < w.heap.size := lt_of_cell c3
  have hbW : Below w.heap.size w (w.alloc (Obj.cells #[Value.pointer (some ⟨d, 0, none⟩)] 71)) := (Below.refl _ _).alloc (Nat.le_refl _) _
  have hcall := Sync1_disk (w.alloc (Obj.cells #[Value.pointer (some ⟨d, 0, none⟩)] 71)) w.heap.size d bx B N many W D ((hbW.block d hd0).trans hd) (Hat.out.below hbW) hW (heap_alloc_new w _)
  have Hcall := Lib.hid hcall
  have HbW := Lib.hid hbW
  have Hd := Lib.hid hd
  clear hd hcall hbW hb
  go_enter Tryz.func86, Tryz.ntmps86
  go_wp2_with (first | (go_at_call 139; refine Hcall.out.mono ?_; rintro e w2 ⟨rfl, hat2, hkp2⟩) | (go_at_call 137; go_in))
  refine bodyPost_ret (v := .nilIface) (by simp [results, Tryz.results86, go_sem]) rfl ⟨rfl, hat2, ?_⟩
  exact DF.trans (Kp.of_below HbW.out _) hkp2
end Go.Proofs.YtmbfenkmabdokaaGreatDoor

namespace Go.Proofs.YtmbfenkmabdokaaGreatDoor
open Go.RowKit Go.Mp

set_option maxRecDepth 100000 in
theorem parted_ok (s : Nat) (w : World) (h1 : 64 ≤ s) (h2 : s ≤ 1048576) :
    Calls Tryz.prog 83 #[.int .i64 s] w fun e w' =>
      e = .returned (.tuple #[.agg #[.int .i64 ((s / 4 : Nat) : Int), .int .i64 ((s - 2 - s / 4 : Nat) : Int), .int .i64 ((2 + s / 4 : Nat) : Int)], .bool true]) ∧ Below w.heap.size w w' := by
  have e1 : ((s / 4 : Nat) : Int) = (s : Int) / 4 := by omega
  have e2 : ((s - 2 - s / 4 : Nat) : Int) = (s : Int) - 2 - (s : Int) / 4 := by omega
  have e3 : ((2 + s / 4 : Nat) : Int) = 2 + (s : Int) / 4 := by omega
  rw [e1, e2, e3]
  go_enter Tryz.func83, Tryz.ntmps83
  go_wp2_with fail
  refine bodyPost_ret (v := .tuple #[.agg #[.int .i64 ((s : Int) / 4), .int .i64 ((s : Int) - 2 - (s : Int) / 4), .int .i64 (2 + (s : Int) / 4)], .bool true]) ?_ rfl ⟨rfl, (Below.refl _ _).alloc (Nat.le_refl _) _⟩
  simp [results, Tryz.results83, go_sem]

/-- bytes that a row holds: of a sector, from N on -/
def FV (w : World) (N : Nat) (v : Value) (l : Bytes) : Prop := ∃ A c, v = .slice A 512 c ∧ l.length = 512 ∧ RdB w A l ∧ TyB w A ∧ (∀ a, A = some a → N ≤ a.block)
theorem bytes_ne_write : (5 : Nat) ≠ 206 := by decide
theorem FV.df {w w' : World} {B N : Nat} {v : Value} {l : Bytes} (h : FV w N v l) (k : Kp (DF B N w) w w') : FV w' N v l := by
  obtain ⟨A, c, h1, h2, h3, h4, h5⟩ := h
  have hn : ∀ a, A = some a → ¬ DF B N w a.block := fun a ha hf => by
    obtain ⟨cs, fz, hc⟩ := h4 a ha
    rcases hf.2 with h6 | ⟨cs', fz', h6⟩
    · have := h5 a ha; omega
    · rw [hc] at h6; cases h6
  refine ⟨A, c, h1, h2, h3.keep k hn, fun a ha => ?_, h5⟩
  obtain ⟨cs, fz, hc⟩ := h4 a ha
  exact ⟨cs, fz, by rw [k.block _ (lt_of_heap hc) (hn a ha)]; exact hc⟩
theorem FV.below {w w' : World} {N : Nat} {v : Value} {l : Bytes} (h : FV w N v l) (k : Below w.heap.size w w') : FV w' N v l :=
  h.df (B := 0) (Kp.of_below k _)
theorem DiskP.df {w w' : World} {B N d bx : Nat} (h : DiskP w d bx) (hd : N ≤ d) (k : Kp (DF B N w) w w') : DiskP w' d bx := by
  unfold DiskP at *
  rw [k.block _ (lt_of_heap h) ?_]
  · exact h
  · rintro ⟨_, h6 | ⟨cs', fz', h6⟩⟩
    · omega
    · rw [h] at h6; cases h6
theorem DiskP.below {w w' : World} {d bx : Nat} (h : DiskP w d bx) (k : Below w.heap.size w w') : DiskP w' d bx := h.df (B := 0) (N := 0) (Nat.zero_le _) (Kp.of_below k _)
theorem EnvN.df {w w' : World} {B N : Nat} (h : EnvN w) (hB : 3 < B) (k : Kp (DF B N w) w w') : EnvN w' := h.keep k (fun hf => by have := hf.1; omega)
end Go.Proofs.YtmbfenkmabdokaaGreatDoor
