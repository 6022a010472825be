/- Parts of the proof: ShaBlk, HeldJ. -/
import Derived.Laws.Rows
import Derived.Test.YtmbfenkmabdokaaGreatDoorR10
import Derived.Test.YtmbfenkmabdokaaGreatDoorR05
import Derived.Test.YtmbfenkmabdokaaGreatDoorR06
import Derived.Test.YtmbfenkmabdokaaGreatDoorR03
set_option linter.all false
namespace Go.Proofs.YtmbfenkmabdokaaGreatDoor
open Go.RowKit Go.Mp

def uV (x : UInt32) : Value := .int .u32 (x.toNat : Int)
def s5C (h : S5) : Array Value := #[uV h.a, uV h.b, uV h.c, uV h.d, uV h.e]

theorem and31 (k : Nat) (h : k < 32) : bits BinOp.and IntKind.u64 (k : Int) 31 = (k : Int) := by
  have := u64_and_nat k 31 (by omega) (by omega)
  have e : k &&& 31 = k := by
    have := Nat.and_two_pow_sub_one_eq_mod k 5
    rw [show 2 ^ 5 - 1 = 31 from rfl] at this
    rw [this]; omega
  rw [e] at this
  exact_mod_cast this
theorem rot_bits (x : UInt32) (k : Nat) (hk : k < 32) : bits BinOp.or IntKind.u32 ((x.toNat : Int) * 2 ^ k % 4294967296) ((x.toNat : Int) / 2 ^ (32 - k)) = ((rotl x k).toNat : Int) := by
  have hx := x.toNat_lt
  rw [rotl_toNat x k (by omega), ← rot_or x.toNat k hx (by omega)]
  have h1 : x.toNat * 2 ^ k % 4294967296 < 4294967296 := Nat.mod_lt _ (by decide)
  have h2 : x.toNat / 2 ^ (32 - k) < 4294967296 := Nat.lt_of_le_of_lt (Nat.div_le_self _ _) hx
  have := u32_or_nat _ _ h1 h2
  rw [← this]
  congr 1

theorem Rot_ok (w : World) (x : UInt32) (k : Nat) (hk : k < 32) :
    Calls Tryz.prog 237 #[.int .u32 (x.toNat : Int), .int .i64 (k : Int)] w fun e w' => e = .returned (uV (rotl x k)) ∧ w = w' := by
  have h31 := and31 k hk
  have hr := rot_bits x k hk
  go_enter Tryz.func237, Tryz.ntmps237
  go_wp2
  go_ret
  exact ⟨rfl, rfl⟩

theorem Rot_lit (w : World) (x : UInt32) (k : Nat) (n : Int) (hn : n = k) (hk : k < 32) :
    Calls Tryz.prog 237 #[.int .u32 (x.toNat : Int), .int .i64 n] w fun e w' => e = .returned (.int .u32 ((rotl x k).toNat : Int)) ∧ w = w' := by
  subst hn; exact Rot_ok w x k hk

def wArr (p : Bytes) (k : Nat) : Array Value := ((wl p k).map uV ++ List.replicate (80 - k) (Value.int .u32 0)).toArray
theorem wArr_size (p : Bytes) (k : Nat) (h : k ≤ 80) : (wArr p k).size = 80 := by simp [wArr, wl_length]; omega
theorem wl_get (p : Bytes) (k n j : Nat) (h : j < k) (hn : k ≤ n) : (wl p n).getD j 0 = (wl p k).getD j 0 := by
  induction n with
  | zero => omega
  | succ n ih =>
    by_cases e : k = n + 1
    · rw [e]
    · rw [wl, ← ih (by omega)]
      simp only [List.getD_eq_getElem?_getD]
      rw [List.getElem?_append_left (by rw [wl_length]; omega)]
theorem wArr_get (p : Bytes) (k j : Nat) (h : j < k) (_hk : k ≤ 80) : (wArr p k)[j]? = some (uV ((wl p k).getD j 0)) := by
  have hl := wl_length p k
  simp [wArr, List.getElem?_append_left, hl, h, List.getElem?_eq_getElem]
theorem wArr_next (p : Bytes) (k : Nat) (h : k < 80) : (wArr p k)[k]? = some (.int .u32 0) := by
  have hl := wl_length p k
  simp only [wArr, List.getElem?_toArray]
  rw [List.getElem?_append_right (by simp [hl])]
  simp only [List.length_map, hl, Nat.sub_self, List.getElem?_replicate]
  rw [if_pos (by omega)]
theorem wArr_step (p : Bytes) (k : Nat) (h : k < 80) : (wArr p k).setIfInBounds k (uV ((wl p (k + 1)).getD k 0)) = wArr p (k + 1) := by
  have hl := wl_length p k
  have hl1 := wl_length p (k + 1)
  apply Array.ext_getElem?
  intro i
  rw [Array.getElem?_setIfInBounds, wArr_size p k (by omega)]
  by_cases e : k = i
  · subst e
    rw [if_pos rfl, if_pos h, wArr_get p (k + 1) k (by omega) (by omega)]
  · rw [if_neg e]
    by_cases h1 : i < k
    · rw [wArr_get p k i h1 (by omega), wArr_get p (k + 1) i (by omega) (by omega), wl_get p k (k + 1) i h1 (by omega)]
    · simp only [wArr, List.getElem?_toArray]
      rw [List.getElem?_append_right (by simp [hl]; omega), List.getElem?_append_right (by simp [hl1]; omega)]
      simp only [List.length_map, hl, hl1, List.getElem?_replicate]
      by_cases h2 : i < 80
      · rw [if_pos (by omega), if_pos (by omega)]
      · rw [if_neg (by omega), if_neg (by omega)]
theorem wArr_zero (p : Bytes) : wArr p 0 = (List.replicate 80 (Value.int .u32 0)).toArray := by simp [wArr, wl]

theorem wrap32_nat (n : Nat) (h : n < 4294967296) : IntKind.u32.wrap (n : Int) = (n : Int) := by
  simp [IntKind.wrap, IntKind.bits, IntKind.signed]; omega
theorem word_bits (q0 q1 q2 q3 : UInt8) :
    bits BinOp.or IntKind.u32 (bits BinOp.or IntKind.u32 (bits BinOp.or IntKind.u32 (IntKind.u32.wrap (IntKind.u32.wrap (q0.toNat : Int) * 16777216)) (IntKind.u32.wrap (IntKind.u32.wrap (q1.toNat : Int) * 65536)))
      (IntKind.u32.wrap (IntKind.u32.wrap (q2.toNat : Int) * 256))) (IntKind.u32.wrap (q3.toNat : Int)) = ((q0.toNat * 16777216 + q1.toNat * 65536 + q2.toNat * 256 + q3.toNat : Nat) : Int) := by
  have l0 := q0.toNat_lt; have l1 := q1.toNat_lt; have l2 := q2.toNat_lt; have l3 := q3.toNat_lt
  generalize q0.toNat = a at *
  generalize q1.toNat = b at *
  generalize q2.toNat = c at *
  generalize q3.toNat = d at *
  have e0 : IntKind.u32.wrap (IntKind.u32.wrap (a : Int) * 16777216) = ((a * 16777216 : Nat) : Int) := by
    rw [wrap32_nat a (by omega)]; exact wrap32_nat (a * 16777216) (by omega)
  have e1 : IntKind.u32.wrap (IntKind.u32.wrap (b : Int) * 65536) = ((b * 65536 : Nat) : Int) := by
    rw [wrap32_nat b (by omega)]; exact wrap32_nat (b * 65536) (by omega)
  have e2 : IntKind.u32.wrap (IntKind.u32.wrap (c : Int) * 256) = ((c * 256 : Nat) : Int) := by
    rw [wrap32_nat c (by omega)]; exact wrap32_nat (c * 256) (by omega)
  rw [e0, e1, e2, wrap32_nat d (by omega), u32_or_nat _ _ (by omega) (by omega)]
  have o1 : a * 16777216 ||| b * 65536 = a * 16777216 + b * 65536 := by
    have := Nat.two_pow_add_eq_or_of_lt (i := 24) (b := b * 65536) (by omega) a
    rw [show a * 16777216 = 2 ^ 24 * a from by omega]; exact this.symm
  rw [o1, u32_or_nat _ _ (by omega) (by omega)]
  have o2 : (a * 16777216 + b * 65536) ||| c * 256 = a * 16777216 + b * 65536 + c * 256 := by
    have := Nat.two_pow_add_eq_or_of_lt (i := 16) (b := c * 256) (by omega) (a * 256 + b)
    rw [show a * 16777216 + b * 65536 = 2 ^ 16 * (a * 256 + b) from by omega]; exact this.symm
  rw [o2, u32_or_nat _ _ (by omega) (by omega)]
  have o3 : (a * 16777216 + b * 65536 + c * 256) ||| d = a * 16777216 + b * 65536 + c * 256 + d := by
    have := Nat.two_pow_add_eq_or_of_lt (i := 8) (b := d) (by omega) (a * 65536 + b * 256 + c)
    rw [show a * 16777216 + b * 65536 + c * 256 = 2 ^ 8 * (a * 65536 + b * 256 + c) from by omega]; exact this.symm
  rw [o3]
theorem wl_at (p : Bytes) (k : Nat) : (wl p (k + 1)).getD k 0 = if k < 16 then word p k else rotl ((wl p k).getD (k - 3) 0 ^^^ (wl p k).getD (k - 8) 0 ^^^ (wl p k).getD (k - 14) 0 ^^^ (wl p k).getD (k - 16) 0) 1 := by
  rw [List.getD_eq_getElem?_getD, wl, List.getElem?_append_right (by rw [wl_length]; omega), wl_length, Nat.sub_self]
  rfl
theorem word_toNat (p : Bytes) (k : Nat) (q0 q1 q2 q3 : UInt8) (h0 : p.getD (4 * k) 0 = q0) (h1 : p.getD (4 * k + 1) 0 = q1) (h2 : p.getD (4 * k + 2) 0 = q2) (h3 : p.getD (4 * k + 3) 0 = q3) :
    ((q0.toNat * 16777216 + q1.toNat * 65536 + q2.toNat * 256 + q3.toNat : Nat) : Int) = ((word p k).toNat : Int) := by
  have l0 := q0.toNat_lt; have l1 := q1.toNat_lt; have l2 := q2.toNat_lt; have l3 := q3.toNat_lt
  unfold word
  rw [h0, h1, h2, h3, UInt32.toNat_ofNat']
  congr 1
  exact (Nat.mod_eq_of_lt (by omega)).symm

theorem index_w (p : Bytes) (k : Nat) (hk : k < 80) (W : World) :
    (Instr.index 336 (.agg (wArr p 80)) (.int .i64 (k : Int))).run Tryz.prog W = .ok (.int .u32 (((wl p 80).getD k 0).toNat : Int)) W := by
  have h := wArr_get p 80 k hk (by omega)
  have hn : (0 : Int) ≤ k ∧ (k : Int) < 80 := by omega
  have hs : (Go.sizeOf 279).run Tryz.prog W = .ok 1 W := by kernel_rfl
  have ha : (isAgg 279).run Tryz.prog W = .ok false W := by kernel_rfl
  simp [Instr.index, run_underlying Tryz.underlying336, asIntOf, hn, hs, part, ha, h, uV]
  intro h9; omega

theorem row_set {w : World} {z : Nat} {a : Array Value} {t : TypeId} (i : Nat) (v : Value) (h : w.heap[z]? = some (.cells a t (0, 0))) :
    (w.setCell ⟨z, i, none⟩ v).heap[z]? = some (.cells (a.setIfInBounds i v) t (0, 0)) := by
  rw [setCell_eq_setRow w z i _ _ _ _ h]
  exact setRow_heap w z _ _ _ _ h

/-- what the rounds of a block keep -/
structure BlkW (w wr : World) (h : S5) (p : Bytes) (k : Nat) : Prop where
  bel : Below w.heap.size w wr
  hs : wr.heap[w.heap.size]? = some (.cells (s5C h) 281 (0, 0))
  rs : wr.heap[w.heap.size + 1]? = some (.cells (Array.replicate 5 (.int .u32 0)) 281 (0, 0))
  ws : wr.heap[w.heap.size + 1 + 1]? = some (.cells (wArr p k) 336 (0, 0))

theorem BlkW.step {w wr : World} {h : S5} {p : Bytes} {k : Nat} (x : BlkW w wr h p k) (hk : k < 80) (v : UInt32) (hv : v = (wl p (k + 1)).getD k 0) :
    BlkW w (wr.setCell ⟨w.heap.size + 1 + 1, k, none⟩ (.int .u32 (v.toNat : Int))).drew h p (k + 1) := by
  refine ⟨(x.bel.setCell (by show w.heap.size ≤ w.heap.size + 1 + 1; omega) _).drew, ?_, ?_, ?_⟩
  · show (wr.setCell _ _).heap[_]? = _
    rw [Below.heap_setCell wr ⟨w.heap.size + 1 + 1, k, none⟩ _ _ (by show w.heap.size ≠ w.heap.size + 1 + 1; omega)]; exact x.hs
  · show (wr.setCell _ _).heap[_]? = _
    rw [Below.heap_setCell wr ⟨w.heap.size + 1 + 1, k, none⟩ _ _ (by show w.heap.size + 1 ≠ w.heap.size + 1 + 1; omega)]; exact x.rs
  · show (wr.setCell _ _).heap[_]? = _
    rw [setCell_eq_setRow wr _ k _ _ _ _ x.ws, hv]
    have := wArr_step p k hk
    unfold uV at this
    rw [this]
    exact setRow_heap wr _ _ _ _ _ x.ws

set_option maxRecDepth 100000 in
set_option maxHeartbeats 8000000 in
theorem block_ok (w : World) (h : S5) (A : Option Addr) (c : Nat) (p : Bytes) (hp : RdB w A p) (hlen : p.length = 64) (hc : 64 ≤ c) :
    Calls Tryz.prog 178 #[.agg (s5C h), .slice A 64 c] w fun e w' => e = .returned (.agg (s5C (blk h p))) ∧ Below w.heap.size w w' := by
  have hl : ∀ wr, Below w.heap.size w wr → ∃ b o, A = some ⟨b, o, none⟩ ∧ ∀ i, i < 64 → wr.cell? ⟨b, o + i, none⟩ = some (.int .u8 ((p.getD i 0).toNat : Int)) := fun wr hb => by
    rcases hp.below hb with h0 | ⟨b, o, hA, hx⟩
    · rw [h0] at hlen; simp at hlen
    · refine ⟨b, o, hA, fun i hi => ?_⟩
      rw [hx i (by omega), List.getD_eq_getElem?_getD]
  obtain ⟨b, o, rfl, _⟩ := hl w (Below.refl _ _)
  have hl2 : ∀ wr, Below w.heap.size w wr → ∀ i, i < 64 → wr.cell? ⟨b, o + i, none⟩ = some (.int .u8 ((p.getD i 0).toNat : Int)) := fun wr hb => by
    obtain ⟨b', o', e, hx⟩ := hl wr hb
    cases e; exact hx
  have HL := Lib.hid hl2
  have hbl : b < w.heap.size := lt_of_cell (hl2 w (Below.refl _ _) 0 (by omega))
  clear hl hl2 hp
  have z0 : Tryz.zeroCells336 = wArr p 0 := by rw [wArr_zero]; kernel_rfl
  have B0 : BlkW w (((w.alloc (.cells (s5C h) 281)).alloc (.cells #[.int .u32 0, .int .u32 0, .int .u32 0, .int .u32 0, .int .u32 0] 281)).alloc (.cells Tryz.zeroCells336 336)) h p 0 := by
    refine ⟨(((Below.refl _ _).alloc (by simp) _).alloc (by simp) _).alloc (by simp; omega) _, ?_, ?_, ?_⟩
    · simp only [heap_alloc_push, Array.getElem?_push, Array.size_push]; repeat (first | rw [if_pos trivial] | rw [if_neg (by omega)] | rw [if_pos (by omega)])
    · simp only [heap_alloc_push, Array.getElem?_push, Array.size_push]; repeat (first | rw [if_pos trivial] | rw [if_neg (by omega)] | rw [if_pos (by omega)])
      rfl
    · rw [z0]; simp only [heap_alloc_push, Array.getElem?_push, Array.size_push]; repeat (first | rw [if_pos trivial] | rw [if_neg (by omega)] | rw [if_pos (by omega)])
  have B0 := Lib.hid B0
  clear z0
  go_enter Tryz.func178, Tryz.ntmps178
  go_wp2
  go_loopw [18] (fun i wr => ∃ k : Nat, k ≤ 16 ∧ i = .int .i64 k ∧ BlkW w wr h p k) (fun i _ => 16 - (intOf i).toNat)
  case atStart => exact ⟨0, by omega, rfl, B0.out⟩
  case round =>
    obtain ⟨k, hk, rfl, hB⟩ := hrel
    clear B0
    by_cases hlt : k < 16
    · have e0 := HL.out wr hB.bel (4 * k) (by omega)
      have e1 := HL.out wr hB.bel (4 * k + 1) (by omega)
      have e2 := HL.out wr hB.bel (4 * k + 2) (by omega)
      have e3 := HL.out wr hB.bel (4 * k + 3) (by omega)
      rw [← Nat.add_assoc] at e1 e2 e3
      have HBW := Lib.hid hB
      generalize hq0 : p.getD (4 * k) 0 = q0 at *
      generalize hq1 : p.getD (4 * k + 1) 0 = q1 at *
      generalize hq2 : p.getD (4 * k + 2) 0 = q2 at *
      generalize hq3 : p.getD (4 * k + 3) 0 = q3 at *
      have Q := Lib.hid (And.intro hq0 (And.intro hq1 (And.intro hq2 hq3)))
      have l0 := q0.toNat_lt; have l1 := q1.toNat_lt; have l2 := q2.toNat_lt; have l3 := q3.toNat_lt
      clear hB hq0 hq1 hq2 hq3
      obtain ⟨S, hSd⟩ : ∃ S : World → Prop, ∀ w', S w' ↔ (w'.cell? ⟨b, o + 4 * k, none⟩ = some (.int .u8 (q0.toNat : Int)) ∧ w'.cell? ⟨b, o + 4 * k + 1, none⟩ = some (.int .u8 (q1.toNat : Int)) ∧ w'.cell? ⟨b, o + 4 * k + 2, none⟩ = some (.int .u8 (q2.toNat : Int)) ∧ w'.cell? ⟨b, o + 4 * k + 3, none⟩ = some (.int .u8 (q3.toNat : Int))) := ⟨_, fun _ => Iff.rfl⟩
      have hS : S wr.drew := (hSd _).2 ⟨e0, e1, e2, e3⟩
      have HSd := Lib.hid hSd
      clear hSd e0 e1 e2 e3
      have h80 : (k : Int) < 80 := by omega
      go_wp2
      refine wp_region_I (by kernel_rfl) S 24 ?_
      refine wpAnyI_take 0 (v := ?_) rfl (by kernel_rfl) (by kernel_rfl) (by kernel_rfl) (by kernel_rfl) (fun _ _ _ h => h) (.inl ⟨rfl, fun w' hS' => ?_⟩) hS ?_; rotate_left 1; focus (have hf := (HSd.out w').1 hS'; (repeat (obtain ⟨_, hf⟩ := hf)); go_simp; (try rfl))
      refine wpAnyI_take 1 (v := ?_) rfl (by kernel_rfl) (by kernel_rfl) (by kernel_rfl) (by kernel_rfl) (fun _ _ _ h => h) (.inl ⟨rfl, fun w' hS' => ?_⟩) hS ?_; rotate_left 1; focus (have hf := (HSd.out w').1 hS'; (repeat (obtain ⟨_, hf⟩ := hf)); go_simp; (try rfl))
      refine wpAnyI_take 2 (v := ?_) rfl (by kernel_rfl) (by kernel_rfl) (by kernel_rfl) (by kernel_rfl) (fun _ _ _ h => h) (.inl ⟨rfl, fun w' hS' => ?_⟩) hS ?_; rotate_left 1; focus (have hf := (HSd.out w').1 hS'; (repeat (obtain ⟨_, hf⟩ := hf)); go_simp; (try rfl))
      refine wpAnyI_take 3 (v := ?_) rfl (by kernel_rfl) (by kernel_rfl) (by kernel_rfl) (by kernel_rfl) (fun _ _ _ h => h) (.inl ⟨rfl, fun w' hS' => ?_⟩) hS ?_; rotate_left 1; focus (have hf := (HSd.out w').1 hS'; (repeat (obtain ⟨_, hf⟩ := hf)); go_simp; (try rfl))
      refine wpAnyI_take 4 (v := ?_) rfl (by kernel_rfl) (by kernel_rfl) (by kernel_rfl) (by kernel_rfl) (fun _ _ _ h => h) (.inl ⟨rfl, fun w' hS' => ?_⟩) hS ?_; rotate_left 1; focus (have hf := (HSd.out w').1 hS'; (repeat (obtain ⟨_, hf⟩ := hf)); go_simp; (try rfl))
      refine wpAnyI_take 5 (v := ?_) rfl (by kernel_rfl) (by kernel_rfl) (by kernel_rfl) (by kernel_rfl) (fun _ _ _ h => h) (.inl ⟨rfl, fun w' hS' => ?_⟩) hS ?_; rotate_left 1; focus (have hf := (HSd.out w').1 hS'; (repeat (obtain ⟨_, hf⟩ := hf)); go_simp; (try rfl))
      refine wpAnyI_take 6 (v := ?_) rfl (by kernel_rfl) (by kernel_rfl) (by kernel_rfl) (by kernel_rfl) (fun _ _ _ h => h) (.inl ⟨rfl, fun w' hS' => ?_⟩) hS ?_; rotate_left 1; focus (have hf := (HSd.out w').1 hS'; (repeat (obtain ⟨_, hf⟩ := hf)); go_simp; (try rfl))
      refine wpAnyI_take 7 (v := ?_) rfl (by kernel_rfl) (by kernel_rfl) (by kernel_rfl) (by kernel_rfl) (fun _ _ _ h => h) (.inl ⟨rfl, fun w' hS' => ?_⟩) hS ?_; rotate_left 1; focus (have hf := (HSd.out w').1 hS'; (repeat (obtain ⟨_, hf⟩ := hf)); go_simp; (try rfl))
      refine wpAnyI_take 8 (v := ?_) rfl (by kernel_rfl) (by kernel_rfl) (by kernel_rfl) (by kernel_rfl) (fun _ _ _ h => h) (.inl ⟨rfl, fun w' hS' => ?_⟩) hS ?_; rotate_left 1; focus (have hf := (HSd.out w').1 hS'; (repeat (obtain ⟨_, hf⟩ := hf)); go_simp; (try rfl))
      refine wpAnyI_take 9 (v := ?_) rfl (by kernel_rfl) (by kernel_rfl) (by kernel_rfl) (by kernel_rfl) (fun _ _ _ h => h) (.inl ⟨rfl, fun w' hS' => ?_⟩) hS ?_; rotate_left 1; focus (have hf := (HSd.out w').1 hS'; (repeat (obtain ⟨_, hf⟩ := hf)); go_simp; (try rfl))
      refine wpAnyI_take 10 (v := ?_) rfl (by kernel_rfl) (by kernel_rfl) (by kernel_rfl) (by kernel_rfl) (fun _ _ _ h => h) (.inl ⟨rfl, fun w' hS' => ?_⟩) hS ?_; rotate_left 1; focus (have hf := (HSd.out w').1 hS'; (repeat (obtain ⟨_, hf⟩ := hf)); go_simp; (try rfl))
      refine wpAnyI_take 11 (v := ?_) rfl (by kernel_rfl) (by kernel_rfl) (by kernel_rfl) (by kernel_rfl) (fun _ _ _ h => h) (.inl ⟨rfl, fun w' hS' => ?_⟩) hS ?_; rotate_left 1; focus (have hf := (HSd.out w').1 hS'; (repeat (obtain ⟨_, hf⟩ := hf)); go_simp; (try rfl))
      refine wpAnyI_take 12 (v := ?_) rfl (by kernel_rfl) (by kernel_rfl) (by kernel_rfl) (by kernel_rfl) (fun _ _ _ h => h) (.inl ⟨rfl, fun w' hS' => ?_⟩) hS ?_; rotate_left 1; focus (have hf := (HSd.out w').1 hS'; (repeat (obtain ⟨_, hf⟩ := hf)); go_simp; (try rfl))
      refine wpAnyI_take 13 (v := ?_) rfl (by kernel_rfl) (by kernel_rfl) (by kernel_rfl) (by kernel_rfl) (fun _ _ _ h => h) (.inl ⟨rfl, fun w' hS' => ?_⟩) hS ?_; rotate_left 1; focus (have hf := (HSd.out w').1 hS'; (repeat (obtain ⟨_, hf⟩ := hf)); go_simp; (try rfl))
      refine wpAnyI_take 14 (v := ?_) rfl (by kernel_rfl) (by kernel_rfl) (by kernel_rfl) (by kernel_rfl) (fun _ _ _ h => h) (.inl ⟨rfl, fun w' hS' => ?_⟩) hS ?_; rotate_left 1; focus (have hf := (HSd.out w').1 hS'; (repeat (obtain ⟨_, hf⟩ := hf)); go_simp; (try rfl))
      refine wpAnyI_take 15 (v := ?_) rfl (by kernel_rfl) (by kernel_rfl) (by kernel_rfl) (by kernel_rfl) (fun _ _ _ h => h) (.inl ⟨rfl, fun w' hS' => ?_⟩) hS ?_; rotate_left 1; focus (have hf := (HSd.out w').1 hS'; (repeat (obtain ⟨_, hf⟩ := hf)); go_simp; (try rfl))
      refine wpAnyI_take 16 (v := ?_) rfl (by kernel_rfl) (by kernel_rfl) (by kernel_rfl) (by kernel_rfl) (fun _ _ _ h => h) (.inl ⟨rfl, fun w' hS' => ?_⟩) hS ?_; rotate_left 1; focus (have hf := (HSd.out w').1 hS'; (repeat (obtain ⟨_, hf⟩ := hf)); go_simp; (try rfl))
      refine wpAnyI_take 17 (v := ?_) rfl (by kernel_rfl) (by kernel_rfl) (by kernel_rfl) (by kernel_rfl) (fun _ _ _ h => h) (.inl ⟨rfl, fun w' hS' => ?_⟩) hS ?_; rotate_left 1; focus (have hf := (HSd.out w').1 hS'; (repeat (obtain ⟨_, hf⟩ := hf)); go_simp; (try rfl))
      refine wpAnyI_take 18 (v := ?_) rfl (by kernel_rfl) (by kernel_rfl) (by kernel_rfl) (by kernel_rfl) (fun _ _ _ h => h) (.inl ⟨rfl, fun w' hS' => ?_⟩) hS ?_; rotate_left 1; focus (have hf := (HSd.out w').1 hS'; (repeat (obtain ⟨_, hf⟩ := hf)); go_simp; (try rfl))
      refine wpAnyI_take 19 (v := ?_) rfl (by kernel_rfl) (by kernel_rfl) (by kernel_rfl) (by kernel_rfl) (fun _ _ _ h => h) (.inl ⟨rfl, fun w' hS' => ?_⟩) hS ?_; rotate_left 1; focus (have hf := (HSd.out w').1 hS'; (repeat (obtain ⟨_, hf⟩ := hf)); go_simp; (try rfl))
      refine wpAnyI_take 20 (v := ?_) rfl (by kernel_rfl) (by kernel_rfl) (by kernel_rfl) (by kernel_rfl) (fun _ _ _ h => h) (.inl ⟨rfl, fun w' hS' => ?_⟩) hS ?_; rotate_left 1; focus (have hf := (HSd.out w').1 hS'; (repeat (obtain ⟨_, hf⟩ := hf)); go_simp; (try rfl))
      refine wpAnyI_take 21 (v := ?_) rfl (by kernel_rfl) (by kernel_rfl) (by kernel_rfl) (by kernel_rfl) (fun _ _ _ h => h) (.inl ⟨rfl, fun w' hS' => ?_⟩) hS ?_; rotate_left 1; focus (have hf := (HSd.out w').1 hS'; (repeat (obtain ⟨_, hf⟩ := hf)); go_simp; (try rfl))
      refine wpAnyI_take 22 (v := ?_) rfl (by kernel_rfl) (by kernel_rfl) (by kernel_rfl) (by kernel_rfl) (fun _ _ _ h => h) (.inl ⟨rfl, fun w' hS' => ?_⟩) hS ?_; rotate_left 1; focus (have hf := (HSd.out w').1 hS'; (repeat (obtain ⟨_, hf⟩ := hf)); go_simp; (try rfl))
      refine wpAnyI_take 23 (v := ?_) rfl (by kernel_rfl) (by kernel_rfl) (by kernel_rfl) (by kernel_rfl) (fun _ _ _ h => h) (.inl ⟨rfl, fun w' hS' => ?_⟩) hS ?_; rotate_left 1; focus (have hf := (HSd.out w').1 hS'; (repeat (obtain ⟨_, hf⟩ := hf)); go_simp; (try rfl))
      have t1 : wr.cell? ⟨w.heap.size + 1 + 1, k, none⟩ = some (.int .u32 0) := by rw [World.cell?]; simp only [HBW.out.ws]; exact wArr_next p k (by omega)
      have t2 : wr.frozen? ⟨w.heap.size + 1 + 1, k, none⟩ = false := by simp [World.frozen?, HBW.out.ws]
      refine wpAnyI_one 24 (by kernel_rfl) (wpOp_step rfl (fun K hK => ?_)); go_simp
      refine hK _ _ ⟨fun h => absurd rfl h, ?_⟩
      clear hK K
      refine wpAnyI_done (by kernel_rfl) ?_ _
      go_simp
      rw [word_bits, word_toNat p k q0 q1 q2 q3 Q.out.1 Q.out.2.1 Q.out.2.2.1 Q.out.2.2.2]
      have hB2 := HBW.out.step (by omega) (word p k) (by rw [wl_at, if_pos hlt])
      have HB2 := Lib.hid hB2
      clear hB2 t1 t2 hS HSd
      go_wp2
      go_roundw
      case rel => exact ⟨k + 1, by omega, by go_num, HB2.out⟩
      case measure => simp [intOf]; omega
    · obtain rfl : k = 16 := by omega
      have B1 := Lib.hid hB
      clear hB HL
      go_wp2
      go_loopw [8] (fun i ws => ∃ k : Nat, 16 ≤ k ∧ k ≤ 80 ∧ i = .int .i64 k ∧ BlkW w ws h p k) (fun i _ => 80 - (intOf i).toNat)
      case atStart => exact ⟨16, by omega, by omega, rfl, B1.out⟩
      case round =>
        obtain ⟨k, hk1, hk2, rfl, hB⟩ := hrel
        clear B1 hk
        by_cases hlt2 : k < 80
        · obtain ⟨j3, hj3⟩ : ∃ j, j + 3 = k := ⟨k - 3, by omega⟩
          obtain ⟨j8, hj8⟩ : ∃ j, j + 8 = k := ⟨k - 8, by omega⟩
          obtain ⟨j14, hj14⟩ : ∃ j, j + 14 = k := ⟨k - 14, by omega⟩
          obtain ⟨j16, hj16⟩ : ∃ j, j + 16 = k := ⟨k - 16, by omega⟩
          have r3 : wr.cell? ⟨w.heap.size + 1 + 1, j3, none⟩ = some (.int .u32 (((wl p k).getD j3 0).toNat : Int)) := by rw [World.cell?]; simp only [hB.ws]; exact wArr_get p k j3 (by omega) (by omega)
          have r8 : wr.cell? ⟨w.heap.size + 1 + 1, j8, none⟩ = some (.int .u32 (((wl p k).getD j8 0).toNat : Int)) := by rw [World.cell?]; simp only [hB.ws]; exact wArr_get p k j8 (by omega) (by omega)
          have r14 : wr.cell? ⟨w.heap.size + 1 + 1, j14, none⟩ = some (.int .u32 (((wl p k).getD j14 0).toNat : Int)) := by rw [World.cell?]; simp only [hB.ws]; exact wArr_get p k j14 (by omega) (by omega)
          have r16 : wr.cell? ⟨w.heap.size + 1 + 1, j16, none⟩ = some (.int .u32 (((wl p k).getD j16 0).toNat : Int)) := by rw [World.cell?]; simp only [hB.ws]; exact wArr_get p k j16 (by omega) (by omega)
          have t1 : wr.cell? ⟨w.heap.size + 1 + 1, k, none⟩ = some (.int .u32 0) := by rw [World.cell?]; simp only [hB.ws]; exact wArr_next p k (by omega)
          have t2 : wr.frozen? ⟨w.heap.size + 1 + 1, k, none⟩ = false := by simp [World.frozen?, hB.ws]
          have hv : rotl ((wl p k).getD j3 0 ^^^ (wl p k).getD j8 0 ^^^ (wl p k).getD j14 0 ^^^ (wl p k).getD j16 0) 1 = (wl p (k + 1)).getD k 0 := by
            rw [wl_at, if_neg (by omega), show j3 = k - 3 from by omega, show j8 = k - 8 from by omega, show j14 = k - 14 from by omega, show j16 = k - 16 from by omega]
          generalize (wl p k).getD j3 0 = v3 at *
          generalize (wl p k).getD j8 0 = v8 at *
          generalize (wl p k).getD j14 0 = v14 at *
          generalize (wl p k).getD j16 0 = v16 at *
          have HBW := Lib.hid hB
          obtain ⟨S, hSd⟩ : ∃ S : World → Prop, ∀ w', S w' ↔ (w'.cell? ⟨w.heap.size + 1 + 1, j3, none⟩ = some (.int .u32 (v3.toNat : Int)) ∧ w'.cell? ⟨w.heap.size + 1 + 1, j8, none⟩ = some (.int .u32 (v8.toNat : Int)) ∧ w'.cell? ⟨w.heap.size + 1 + 1, j14, none⟩ = some (.int .u32 (v14.toNat : Int)) ∧ w'.cell? ⟨w.heap.size + 1 + 1, j16, none⟩ = some (.int .u32 (v16.toNat : Int))) := ⟨_, fun _ => Iff.rfl⟩
          have hS : S wr.drew := (hSd _).2 ⟨r3, r8, r14, r16⟩
          have HSd := Lib.hid hSd
          have w3 : IntKind.i64.wrap ((k : Int) - 3) = (j3 : Int) := by rw [IntWalk.i64_in _ (by omega)]; omega
          have w8 : IntKind.i64.wrap ((k : Int) - 8) = (j8 : Int) := by rw [IntWalk.i64_in _ (by omega)]; omega
          have w14 : IntKind.i64.wrap ((k : Int) - 14) = (j14 : Int) := by rw [IntWalk.i64_in _ (by omega)]; omega
          have w16 : IntKind.i64.wrap ((k : Int) - 16) = (j16 : Int) := by rw [IntWalk.i64_in _ (by omega)]; omega
          have g3 : (j3 : Int) < 80 := by omega
          have g8 : (j8 : Int) < 80 := by omega
          have g14 : (j14 : Int) < 80 := by omega
          have g16 : (j16 : Int) < 80 := by omega
          have g80 : (k : Int) < 80 := by omega
          have x1 := b_xor v3 v8
          generalize v3 ^^^ v8 = s1 at *
          have x2 := b_xor s1 v14
          generalize s1 ^^^ v14 = s2 at *
          have x3 := b_xor s2 v16
          generalize s2 ^^^ v16 = s3 at *
          have cR := Rot_lit wr.drew s3 1 1 rfl (by omega)
          generalize rotl s3 1 = s4 at *
          have HV := Lib.hid hv
          clear hSd hB hv hj3 hj8 hj14 hj16 r3 r8 r14 r16
          go_wp2
          refine wp_region_I (by kernel_rfl) S 22 ?_
          refine wpAnyI_take 0 (v := ?_) rfl (by kernel_rfl) (by kernel_rfl) (by kernel_rfl) (by kernel_rfl) (fun _ _ _ h => h) (.inl ⟨rfl, fun w' hS' => ?_⟩) hS ?_; rotate_left 1; focus (have hf := (HSd.out w').1 hS'; (repeat (obtain ⟨_, hf⟩ := hf)); go_simp; (try rfl))
          refine wpAnyI_take 1 (v := ?_) rfl (by kernel_rfl) (by kernel_rfl) (by kernel_rfl) (by kernel_rfl) (fun _ _ _ h => h) (.inl ⟨rfl, fun w' hS' => ?_⟩) hS ?_; rotate_left 1; focus (have hf := (HSd.out w').1 hS'; (repeat (obtain ⟨_, hf⟩ := hf)); go_simp; (try rfl))
          refine wpAnyI_take 2 (v := ?_) rfl (by kernel_rfl) (by kernel_rfl) (by kernel_rfl) (by kernel_rfl) (fun _ _ _ h => h) (.inl ⟨rfl, fun w' hS' => ?_⟩) hS ?_; rotate_left 1; focus (have hf := (HSd.out w').1 hS'; (repeat (obtain ⟨_, hf⟩ := hf)); go_simp; (try rfl))
          refine wpAnyI_take 3 (v := ?_) rfl (by kernel_rfl) (by kernel_rfl) (by kernel_rfl) (by kernel_rfl) (fun _ _ _ h => h) (.inl ⟨rfl, fun w' hS' => ?_⟩) hS ?_; rotate_left 1; focus (have hf := (HSd.out w').1 hS'; (repeat (obtain ⟨_, hf⟩ := hf)); go_simp; (try rfl))
          refine wpAnyI_take 4 (v := ?_) rfl (by kernel_rfl) (by kernel_rfl) (by kernel_rfl) (by kernel_rfl) (fun _ _ _ h => h) (.inl ⟨rfl, fun w' hS' => ?_⟩) hS ?_; rotate_left 1; focus (have hf := (HSd.out w').1 hS'; (repeat (obtain ⟨_, hf⟩ := hf)); go_simp; (try rfl))
          refine wpAnyI_take 5 (v := ?_) rfl (by kernel_rfl) (by kernel_rfl) (by kernel_rfl) (by kernel_rfl) (fun _ _ _ h => h) (.inl ⟨rfl, fun w' hS' => ?_⟩) hS ?_; rotate_left 1; focus (have hf := (HSd.out w').1 hS'; (repeat (obtain ⟨_, hf⟩ := hf)); go_simp; (try rfl))
          refine wpAnyI_take 6 (v := ?_) rfl (by kernel_rfl) (by kernel_rfl) (by kernel_rfl) (by kernel_rfl) (fun _ _ _ h => h) (.inl ⟨rfl, fun w' hS' => ?_⟩) hS ?_; rotate_left 1; focus (have hf := (HSd.out w').1 hS'; (repeat (obtain ⟨_, hf⟩ := hf)); go_simp; (try rfl))
          refine wpAnyI_take 7 (v := ?_) rfl (by kernel_rfl) (by kernel_rfl) (by kernel_rfl) (by kernel_rfl) (fun _ _ _ h => h) (.inl ⟨rfl, fun w' hS' => ?_⟩) hS ?_; rotate_left 1; focus (have hf := (HSd.out w').1 hS'; (repeat (obtain ⟨_, hf⟩ := hf)); go_simp; (try rfl))
          refine wpAnyI_take 8 (v := ?_) rfl (by kernel_rfl) (by kernel_rfl) (by kernel_rfl) (by kernel_rfl) (fun _ _ _ h => h) (.inl ⟨rfl, fun w' hS' => ?_⟩) hS ?_; rotate_left 1; focus (have hf := (HSd.out w').1 hS'; (repeat (obtain ⟨_, hf⟩ := hf)); go_simp; (try rfl))
          refine wpAnyI_take 9 (v := ?_) rfl (by kernel_rfl) (by kernel_rfl) (by kernel_rfl) (by kernel_rfl) (fun _ _ _ h => h) (.inl ⟨rfl, fun w' hS' => ?_⟩) hS ?_; rotate_left 1; focus (have hf := (HSd.out w').1 hS'; (repeat (obtain ⟨_, hf⟩ := hf)); go_simp; (try rfl))
          refine wpAnyI_take 10 (v := ?_) rfl (by kernel_rfl) (by kernel_rfl) (by kernel_rfl) (by kernel_rfl) (fun _ _ _ h => h) (.inl ⟨rfl, fun w' hS' => ?_⟩) hS ?_; rotate_left 1; focus (have hf := (HSd.out w').1 hS'; (repeat (obtain ⟨_, hf⟩ := hf)); go_simp; (try rfl))
          refine wpAnyI_take 11 (v := ?_) rfl (by kernel_rfl) (by kernel_rfl) (by kernel_rfl) (by kernel_rfl) (fun _ _ _ h => h) (.inl ⟨rfl, fun w' hS' => ?_⟩) hS ?_; rotate_left 1; focus (have hf := (HSd.out w').1 hS'; (repeat (obtain ⟨_, hf⟩ := hf)); go_simp; (try rfl))
          refine wpAnyI_take 12 (v := ?_) rfl (by kernel_rfl) (by kernel_rfl) (by kernel_rfl) (by kernel_rfl) (fun _ _ _ h => h) (.inl ⟨rfl, fun w' hS' => ?_⟩) hS ?_; rotate_left 1; focus (have hf := (HSd.out w').1 hS'; (repeat (obtain ⟨_, hf⟩ := hf)); go_simp; (try rfl))
          refine wpAnyI_take 13 (v := ?_) rfl (by kernel_rfl) (by kernel_rfl) (by kernel_rfl) (by kernel_rfl) (fun _ _ _ h => h) (.inl ⟨rfl, fun w' hS' => ?_⟩) hS ?_; rotate_left 1; focus (have hf := (HSd.out w').1 hS'; (repeat (obtain ⟨_, hf⟩ := hf)); go_simp; (try rfl))
          refine wpAnyI_take 14 (v := ?_) rfl (by kernel_rfl) (by kernel_rfl) (by kernel_rfl) (by kernel_rfl) (fun _ _ _ h => h) (.inl ⟨rfl, fun w' hS' => ?_⟩) hS ?_; rotate_left 1; focus (have hf := (HSd.out w').1 hS'; (repeat (obtain ⟨_, hf⟩ := hf)); go_simp; (try rfl))
          refine wpAnyI_take 15 (v := ?_) rfl (by kernel_rfl) (by kernel_rfl) (by kernel_rfl) (by kernel_rfl) (fun _ _ _ h => h) (.inl ⟨rfl, fun w' hS' => ?_⟩) hS ?_; rotate_left 1; focus (have hf := (HSd.out w').1 hS'; (repeat (obtain ⟨_, hf⟩ := hf)); go_simp; (try rfl))
          refine wpAnyI_take 16 (v := ?_) rfl (by kernel_rfl) (by kernel_rfl) (by kernel_rfl) (by kernel_rfl) (fun _ _ _ h => h) (.inl ⟨rfl, fun w' hS' => ?_⟩) hS ?_; rotate_left 1; focus (have hf := (HSd.out w').1 hS'; (repeat (obtain ⟨_, hf⟩ := hf)); go_simp; (try rfl))
          refine wpAnyI_take 17 (v := ?_) rfl (by kernel_rfl) (by kernel_rfl) (by kernel_rfl) (by kernel_rfl) (fun _ _ _ h => h) (.inl ⟨rfl, fun w' hS' => ?_⟩) hS ?_; rotate_left 1; focus (have hf := (HSd.out w').1 hS'; (repeat (obtain ⟨_, hf⟩ := hf)); go_simp; (try rfl))
          refine wpAnyI_take 18 (v := ?_) rfl (by kernel_rfl) (by kernel_rfl) (by kernel_rfl) (by kernel_rfl) (fun _ _ _ h => h) (.inl ⟨rfl, fun w' hS' => ?_⟩) hS ?_; rotate_left 1; focus (have hf := (HSd.out w').1 hS'; (repeat (obtain ⟨_, hf⟩ := hf)); go_simp; (try rfl))
          refine wpAnyI_take 19 (v := ?_) rfl (by kernel_rfl) (by kernel_rfl) (by kernel_rfl) (by kernel_rfl) (fun _ _ _ h => h) (.inl ⟨rfl, fun w' hS' => ?_⟩) hS ?_; rotate_left 1; focus (have hf := (HSd.out w').1 hS'; (repeat (obtain ⟨_, hf⟩ := hf)); go_simp; (try rfl))
          refine wpAnyI_one 20 (by kernel_rfl) (wpOp_step rfl (fun K hK => ?_)); go_simp
          refine cR.mono ?_
          rintro e w2 ⟨rfl, rfl⟩
          refine hK _ _ ⟨fun _ => hS, ?_⟩
          clear hK K
          refine wpAnyI_take 21 (v := ?_) rfl (by kernel_rfl) (by kernel_rfl) (by kernel_rfl) (by kernel_rfl) (fun _ _ _ h => h) (.inl ⟨rfl, fun w' hS' => ?_⟩) hS ?_; rotate_left 1; focus (have hf := (HSd.out w').1 hS'; (repeat (obtain ⟨_, hf⟩ := hf)); go_simp; (try rfl))
          refine wpAnyI_one 22 (by kernel_rfl) (wpOp_step rfl (fun K hK => ?_)); go_simp
          refine hK _ _ ⟨fun h => absurd rfl h, ?_⟩
          clear hK K
          refine wpAnyI_done (by kernel_rfl) ?_ _
          go_simp
          have hB2 := HBW.out.step (by omega) _ HV.out
          have HB2 := Lib.hid hB2
          clear hB2 t1 t2 hS HSd x1 x2 x3 w3 w8 w14 w16 cR
          go_wp2
          go_roundw
          case rel => first | exact ⟨k + 1, by omega, by omega, by go_num, HB2.out⟩ | ((repeat apply Exists.intro); exact ⟨⟨k + 1, by omega, by omega, by go_num, HB2.out⟩, rfl⟩)
          case measure => simp [intOf]; omega
        · obtain rfl : k = 80 := by omega
          have y0 : wr.cell? ⟨w.heap.size, 0, none⟩ = some (.int .u32 (h.a.toNat : Int)) := by rw [World.cell?]; simp only [hB.hs]; rfl
          have y1 : wr.cell? ⟨w.heap.size, 1, none⟩ = some (.int .u32 (h.b.toNat : Int)) := by rw [World.cell?]; simp only [hB.hs]; rfl
          have y2 : wr.cell? ⟨w.heap.size, 2, none⟩ = some (.int .u32 (h.c.toNat : Int)) := by rw [World.cell?]; simp only [hB.hs]; rfl
          have y3 : wr.cell? ⟨w.heap.size, 3, none⟩ = some (.int .u32 (h.d.toNat : Int)) := by rw [World.cell?]; simp only [hB.hs]; rfl
          have y4 : wr.cell? ⟨w.heap.size, 4, none⟩ = some (.int .u32 (h.e.toNat : Int)) := by rw [World.cell?]; simp only [hB.hs]; rfl
          obtain ⟨S, hSd⟩ : ∃ S : World → Prop, ∀ w', S w' ↔ (w'.cell? ⟨w.heap.size, 0, none⟩ = some (.int .u32 (h.a.toNat : Int)) ∧ w'.cell? ⟨w.heap.size, 1, none⟩ = some (.int .u32 (h.b.toNat : Int)) ∧ w'.cell? ⟨w.heap.size, 2, none⟩ = some (.int .u32 (h.c.toNat : Int)) ∧ w'.cell? ⟨w.heap.size, 3, none⟩ = some (.int .u32 (h.d.toNat : Int)) ∧ w'.cell? ⟨w.heap.size, 4, none⟩ = some (.int .u32 (h.e.toNat : Int))) := ⟨_, fun _ => Iff.rfl⟩
          have hS : S wr.drew := (hSd _).2 ⟨y0, y1, y2, y3, y4⟩
          have HSd := Lib.hid hSd
          have HBW := Lib.hid hB
          clear hSd hB
          go_wp2
          refine wp_region_I (by kernel_rfl) S 99 ?_
          refine wpAnyS_take 0 (v := ?_) rfl (by kernel_rfl) (by kernel_rfl) (by kernel_rfl) rfl (fun _ _ _ h => h) (.inl ⟨rfl, fun w' hS' => ?_⟩) hS ?_; rotate_left 1; focus (have hf := (HSd.out w').1 hS'; (repeat (obtain ⟨_, hf⟩ := hf)); go_simp; (try rfl))
          refine wpAnyS_take 1 (v := ?_) rfl (by kernel_rfl) (by kernel_rfl) (by kernel_rfl) rfl (fun _ _ _ h => h) (.inl ⟨rfl, fun w' hS' => ?_⟩) hS ?_; rotate_left 1; focus (have hf := (HSd.out w').1 hS'; (repeat (obtain ⟨_, hf⟩ := hf)); go_simp; (try rfl))
          refine wpAnyS_take 2 (v := ?_) rfl (by kernel_rfl) (by kernel_rfl) (by kernel_rfl) rfl (fun _ _ _ h => h) (.inl ⟨rfl, fun w' hS' => ?_⟩) hS ?_; rotate_left 1; focus (have hf := (HSd.out w').1 hS'; (repeat (obtain ⟨_, hf⟩ := hf)); go_simp; (try rfl))
          refine wpAnyS_take 3 (v := ?_) rfl (by kernel_rfl) (by kernel_rfl) (by kernel_rfl) rfl (fun _ _ _ h => h) (.inl ⟨rfl, fun w' hS' => ?_⟩) hS ?_; rotate_left 1; focus (have hf := (HSd.out w').1 hS'; (repeat (obtain ⟨_, hf⟩ := hf)); go_simp; (try rfl))
          refine wpAnyS_take 4 (v := ?_) rfl (by kernel_rfl) (by kernel_rfl) (by kernel_rfl) rfl (fun _ _ _ h => h) (.inl ⟨rfl, fun w' hS' => ?_⟩) hS ?_; rotate_left 1; focus (have hf := (HSd.out w').1 hS'; (repeat (obtain ⟨_, hf⟩ := hf)); go_simp; (try rfl))
          refine wpAnyS_take 5 (v := ?_) rfl (by kernel_rfl) (by kernel_rfl) (by kernel_rfl) rfl (fun _ _ _ h => h) (.inl ⟨rfl, fun w' hS' => ?_⟩) hS ?_; rotate_left 1; focus (have hf := (HSd.out w').1 hS'; (repeat (obtain ⟨_, hf⟩ := hf)); go_simp; (try rfl))
          refine wpAnyS_take 6 (v := ?_) rfl (by kernel_rfl) (by kernel_rfl) (by kernel_rfl) rfl (fun _ _ _ h => h) (.inl ⟨rfl, fun w' hS' => ?_⟩) hS ?_; rotate_left 1; focus (have hf := (HSd.out w').1 hS'; (repeat (obtain ⟨_, hf⟩ := hf)); go_simp; (try rfl))
          refine wpAnyS_take 7 (v := ?_) rfl (by kernel_rfl) (by kernel_rfl) (by kernel_rfl) rfl (fun _ _ _ h => h) (.inl ⟨rfl, fun w' hS' => ?_⟩) hS ?_; rotate_left 1; focus (have hf := (HSd.out w').1 hS'; (repeat (obtain ⟨_, hf⟩ := hf)); go_simp; (try rfl))
          refine wpAnyS_take 8 (v := ?_) rfl (by kernel_rfl) (by kernel_rfl) (by kernel_rfl) rfl (fun _ _ _ h => h) (.inl ⟨rfl, fun w' hS' => ?_⟩) hS ?_; rotate_left 1; focus (have hf := (HSd.out w').1 hS'; (repeat (obtain ⟨_, hf⟩ := hf)); go_simp; (try rfl))
          refine wpAnyS_take 9 (v := ?_) rfl (by kernel_rfl) (by kernel_rfl) (by kernel_rfl) rfl (fun _ _ _ h => h) (.inl ⟨rfl, fun w' hS' => ?_⟩) hS ?_; rotate_left 1; focus (have hf := (HSd.out w').1 hS'; (repeat (obtain ⟨_, hf⟩ := hf)); go_simp; (try rfl))
          refine wpAnyS_take 10 (v := ?_) rfl (by kernel_rfl) (by kernel_rfl) (by kernel_rfl) rfl (fun _ _ _ h => h) (.inl ⟨rfl, fun w' hS' => ?_⟩) hS ?_; rotate_left 1; focus (have hf := (HSd.out w').1 hS'; (repeat (obtain ⟨_, hf⟩ := hf)); go_simp; (try rfl))
          refine wpAnyS_take 11 (v := ?_) rfl (by kernel_rfl) (by kernel_rfl) (by kernel_rfl) rfl (fun _ _ _ h => h) (.inl ⟨rfl, fun w' hS' => ?_⟩) hS ?_; rotate_left 1; focus (have hf := (HSd.out w').1 hS'; (repeat (obtain ⟨_, hf⟩ := hf)); go_simp; (try rfl))
          refine wpAnyS_take 12 (v := ?_) rfl (by kernel_rfl) (by kernel_rfl) (by kernel_rfl) rfl (fun _ _ _ h => h) (.inl ⟨rfl, fun w' hS' => ?_⟩) hS ?_; rotate_left 1; focus (have hf := (HSd.out w').1 hS'; (repeat (obtain ⟨_, hf⟩ := hf)); go_simp; (try rfl))
          refine wpAnyS_take 13 (v := ?_) rfl (by kernel_rfl) (by kernel_rfl) (by kernel_rfl) rfl (fun _ _ _ h => h) (.inl ⟨rfl, fun w' hS' => ?_⟩) hS ?_; rotate_left 1; focus (have hf := (HSd.out w').1 hS'; (repeat (obtain ⟨_, hf⟩ := hf)); go_simp; (try rfl))
          refine wpAnyS_take 14 (v := ?_) rfl (by kernel_rfl) (by kernel_rfl) (by kernel_rfl) rfl (fun _ _ _ h => h) (.inl ⟨rfl, fun w' hS' => ?_⟩) hS ?_; rotate_left 1; focus (have hf := (HSd.out w').1 hS'; (repeat (obtain ⟨_, hf⟩ := hf)); go_simp; (try rfl))
          refine wpAnyI_done (by kernel_rfl) ?_ _
          go_simp
          have hws : wr.drew.heap[w.heap.size + 1 + 1]? = some (.cells (wArr p 80) 336 (0, 0)) := HBW.out.ws
          have hwi : (Tryz.prog.info? 336).map (·.size) = some (wArr p 80).size := by rw [wArr_size p 80 (by omega)]; kernel_rfl
          clear hS HSd
          go_wp2_with (refine wpList_load_row rfl 336 _ rfl (w.heap.size + 1 + 1) rfl _ (wArr p 80) _ _ hws Tryz.underlying336 rfl hwi ?_)
          have HW80 := Lib.hid HBW
          go_loop [9, 10, 11, 12, 13, 90] (fun a b c d e i => ∃ k : Nat, k ≤ 80 ∧ i = .int .i64 k ∧ a = uV (rnds (wl p 80) h k).a ∧ b = uV (rnds (wl p 80) h k).b ∧ c = uV (rnds (wl p 80) h k).c ∧ d = uV (rnds (wl p 80) h k).d ∧ e = uV (rnds (wl p 80) h k).e) (fun _ _ _ _ _ i => 80 - (intOf i).toNat)
          case atStart => exact ⟨0, by omega, rfl, rfl, rfl, rfl, rfl, rfl⟩
          case round =>
            obtain ⟨k, hk, rfl, rfl, rfl, rfl, rfl, rfl⟩ := hrel
            by_cases hlt3 : k < 80
            · have hidx := index_w p k hlt3
              have hrn : rnds (wl p 80) h (k + 1) = rnd k ((wl p 80).getD k 0) (rnds (wl p 80) h k) := rfl
              unfold rnd at hrn
              generalize (wl p 80).getD k 0 = X at *
              generalize rnds (wl p 80) h k = st at *
              obtain ⟨A, B, C, D, E⟩ := st
              have cA := fun W => Rot_lit W A 5 5 rfl (by omega)
              have cB := fun W => Rot_lit W B 30 30 rfl (by omega)
              simp only at hrn
              generalize rotl A 5 = R5 at *
              generalize rotl B 30 = R30 at *
              have CA := Lib.hid cA; have CB := Lib.hid cB
              clear cA cB
              unfold uV
              by_cases q0 : k < 20
              · have k0 : fF k B C D = (B &&& C ||| ~~~B &&& D) ∧ kF k = 1518500249 := by unfold fF kF; constructor <;> (rw [if_pos (by omega)])
                rw [k0.1, k0.2] at hrn
                clear k0
                have b0 : ((k : Int) / 20 == 0) = true := by simp; omega
                have m1 := b_and B C
                generalize B &&& C = s1 at *
                have m2 := b_not B
                generalize ~~~B = s2 at *
                have m3 := b_and s2 D
                generalize s2 &&& D = s3 at *
                have m4 := b_or s1 s3
                generalize s1 ||| s3 = FF at *
                have a1 := b_add R5 FF
                generalize R5 + FF = t1 at *
                have a2 := b_add t1 E
                generalize t1 + E = t2 at *
                have a3 : ((t2.toNat : Int) + 1518500249) % 4294967296 = ((t2 + 1518500249).toNat : Int) := b_add t2 1518500249
                generalize t2 + 1518500249 = t3 at *
                have a4 := b_add t3 X
                generalize t3 + X = t4 at *
                have HR := Lib.hid hrn
                clear hrn
                go_wp2_with fail
                refine (CA.out _).mono ?_
                rintro e w2 ⟨rfl, rfl⟩
                dsimp only
                go_wp2_with fail
                refine (CB.out _).mono ?_
                rintro e w2 ⟨rfl, rfl⟩
                dsimp only
                go_wp2_with fail
                exact ⟨⟨k + 1, by omega, by go_num, by rw [HR.out, a4], by rw [HR.out], by rw [HR.out], by rw [HR.out], by rw [HR.out]⟩, by simp [intOf]; omega⟩
              by_cases q1 : k < 40
              · have k0 : fF k B C D = (B ^^^ C ^^^ D) ∧ kF k = 1859775393 := by unfold fF kF; constructor <;> (rw [if_neg (by omega), if_pos (by omega)])
                rw [k0.1, k0.2] at hrn
                clear k0
                have b0 : ((k : Int) / 20 == 0) = false := by simp; omega
                have b1 : ((k : Int) / 20 == 1) = true := by simp; omega
                have m1 := b_xor B C
                generalize B ^^^ C = s1 at *
                have m2 := b_xor s1 D
                generalize s1 ^^^ D = FF at *
                have a1 := b_add R5 FF
                generalize R5 + FF = t1 at *
                have a2 := b_add t1 E
                generalize t1 + E = t2 at *
                have a3 : ((t2.toNat : Int) + 1859775393) % 4294967296 = ((t2 + 1859775393).toNat : Int) := b_add t2 1859775393
                generalize t2 + 1859775393 = t3 at *
                have a4 := b_add t3 X
                generalize t3 + X = t4 at *
                have HR := Lib.hid hrn
                clear hrn
                go_wp2_with fail
                refine (CA.out _).mono ?_
                rintro e w2 ⟨rfl, rfl⟩
                dsimp only
                go_wp2_with fail
                refine (CB.out _).mono ?_
                rintro e w2 ⟨rfl, rfl⟩
                dsimp only
                go_wp2_with fail
                exact ⟨⟨k + 1, by omega, by go_num, by rw [HR.out, a4], by rw [HR.out], by rw [HR.out], by rw [HR.out], by rw [HR.out]⟩, by simp [intOf]; omega⟩
              by_cases q2 : k < 60
              · have k0 : fF k B C D = (B &&& C ||| B &&& D ||| C &&& D) ∧ kF k = 2400959708 := by unfold fF kF; constructor <;> (rw [if_neg (by omega), if_neg (by omega), if_pos (by omega)])
                rw [k0.1, k0.2] at hrn
                clear k0
                have b0 : ((k : Int) / 20 == 0) = false := by simp; omega
                have b1 : ((k : Int) / 20 == 1) = false := by simp; omega
                have b2 : ((k : Int) / 20 == 2) = true := by simp; omega
                have m1 := b_and B C
                generalize B &&& C = s1 at *
                have m2 := b_and B D
                generalize B &&& D = s2 at *
                have m3 := b_or s1 s2
                generalize s1 ||| s2 = s3 at *
                have m4 := b_and C D
                generalize C &&& D = s4 at *
                have m5 := b_or s3 s4
                generalize s3 ||| s4 = FF at *
                have a1 := b_add R5 FF
                generalize R5 + FF = t1 at *
                have a2 := b_add t1 E
                generalize t1 + E = t2 at *
                have a3 : ((t2.toNat : Int) + 2400959708) % 4294967296 = ((t2 + 2400959708).toNat : Int) := b_add t2 2400959708
                generalize t2 + 2400959708 = t3 at *
                have a4 := b_add t3 X
                generalize t3 + X = t4 at *
                have HR := Lib.hid hrn
                clear hrn
                go_wp2_with fail
                refine (CA.out _).mono ?_
                rintro e w2 ⟨rfl, rfl⟩
                dsimp only
                go_wp2_with fail
                refine (CB.out _).mono ?_
                rintro e w2 ⟨rfl, rfl⟩
                dsimp only
                go_wp2_with fail
                exact ⟨⟨k + 1, by omega, by go_num, by rw [HR.out, a4], by rw [HR.out], by rw [HR.out], by rw [HR.out], by rw [HR.out]⟩, by simp [intOf]; omega⟩
              have k0 : fF k B C D = (B ^^^ C ^^^ D) ∧ kF k = 3395469782 := by unfold fF kF; constructor <;> (rw [if_neg (by omega), if_neg (by omega), if_neg (by omega)])
              rw [k0.1, k0.2] at hrn
              clear k0
              have b0 : ((k : Int) / 20 == 0) = false := by simp; omega
              have b1 : ((k : Int) / 20 == 1) = false := by simp; omega
              have b2 : ((k : Int) / 20 == 2) = false := by simp; omega
              have m1 := b_xor B C
              generalize B ^^^ C = s1 at *
              have m2 := b_xor s1 D
              generalize s1 ^^^ D = FF at *
              have a1 := b_add R5 FF
              generalize R5 + FF = t1 at *
              have a2 := b_add t1 E
              generalize t1 + E = t2 at *
              have a3 : ((t2.toNat : Int) + 3395469782) % 4294967296 = ((t2 + 3395469782).toNat : Int) := b_add t2 3395469782
              generalize t2 + 3395469782 = t3 at *
              have a4 := b_add t3 X
              generalize t3 + X = t4 at *
              have HR := Lib.hid hrn
              clear hrn
              go_wp2_with fail
              refine (CA.out _).mono ?_
              rintro e w2 ⟨rfl, rfl⟩
              dsimp only
              go_wp2_with fail
              refine (CB.out _).mono ?_
              rintro e w2 ⟨rfl, rfl⟩
              dsimp only
              go_wp2_with fail
              exact ⟨⟨k + 1, by omega, by go_num, by rw [HR.out, a4], by rw [HR.out], by rw [HR.out], by rw [HR.out], by rw [HR.out]⟩, by simp [intOf]; omega⟩
            · obtain rfl : k = 80 := by omega
              have hbk : blk h p = h.add (rnds (wl p 80) h 80) := rfl
              generalize rnds (wl p 80) h 80 = st at *
              obtain ⟨A, B, C, D, E⟩ := st
              unfold S5.add at hbk
              simp only at hbk
              have a0 := b_add h.a A
              generalize h.a + A = t0 at *
              have a1 := b_add h.b B
              generalize h.b + B = t1 at *
              have a2 := b_add h.c C
              generalize h.c + C = t2 at *
              have a3 := b_add h.d D
              generalize h.d + D = t3 at *
              have a4 := b_add h.e E
              generalize h.e + E = t4 at *
              have HR := Lib.hid hbk
              have rz := HW80.out.rs
              have RZ := Lib.hid rz
              have z0 : wr.cell? ⟨w.heap.size + 1, 0, none⟩ = some (.int .u32 0) := by rw [World.cell?]; simp only [rz]; rfl
              have z1 : wr.cell? ⟨w.heap.size + 1, 1, none⟩ = some (.int .u32 0) := by rw [World.cell?]; simp only [rz]; rfl
              have z2 : wr.cell? ⟨w.heap.size + 1, 2, none⟩ = some (.int .u32 0) := by rw [World.cell?]; simp only [rz]; rfl
              have z3 : wr.cell? ⟨w.heap.size + 1, 3, none⟩ = some (.int .u32 0) := by rw [World.cell?]; simp only [rz]; rfl
              have z4 : wr.cell? ⟨w.heap.size + 1, 4, none⟩ = some (.int .u32 0) := by rw [World.cell?]; simp only [rz]; rfl
              have f0 : ∀ j, wr.frozen? ⟨w.heap.size + 1, j, none⟩ = false := fun j => by simp [World.frozen?, rz]
              clear hbk rz hws hwi
              unfold uV
              go_wp2
              have hfin := row_set 4 (.int .u32 (t4.toNat : Int)) (row_set 3 (.int .u32 (t3.toNat : Int)) (row_set 2 (.int .u32 (t2.toNat : Int)) (row_set 1 (.int .u32 (t1.toNat : Int)) (row_set 0 (.int .u32 (t0.toNat : Int)) RZ.out))))
              refine bodyPost_ret (v := .agg #[.int .u32 (t0.toNat : Int), .int .u32 (t1.toNat : Int), .int .u32 (t2.toNat : Int), .int .u32 (t3.toNat : Int), .int .u32 (t4.toNat : Int)])
                (results_cell_row (p := 4) (ty := 281) rfl _ _ (w.heap.size + 1) 281 _ (0, 0) _ rfl hfin Tryz.underlying281 rfl (by kernel_rfl)) rfl ⟨?_, ?_⟩
              · rw [HR.out]; rfl
              · have hb := HW80.out.bel
                exact (((((hb.setCell (by show w.heap.size ≤ w.heap.size + 1; omega) _).setCell (by show w.heap.size ≤ w.heap.size + 1; omega) _).setCell (by show w.heap.size ≤ w.heap.size + 1; omega) _).setCell (by show w.heap.size ≤ w.heap.size + 1; omega) _).setCell (by show w.heap.size ≤ w.heap.size + 1; omega) _).drew
end Go.Proofs.YtmbfenkmabdokaaGreatDoor

namespace Go
section
variable {P : Program} {ops : Array Oper} {Q : Exit → Act → World → Prop} {md : Region.Mode} {S : World → Prop} {last : Nat}

/-- Whatever order is picked; S holds behind each operation ahead of the one named; behind that one nothing is asked. -/
def wpAnyJ (P : Program) (md : Region.Mode) (ops : Array Oper) (Q : Exit → Act → World → Prop) (S : World → Prop) (last : Nat) : Nat → Array Bool → Act → World → Prop
  | 0, l, a, w => Region.ready md ops l = [] ∧ Q .normal a w
  | n + 1, l, a, w => (Region.ready md ops l = [] → Q .normal a w) ∧
      ∀ i ∈ Region.ready md ops l, wpOp P ops Q i (fun a' w' => (i ≠ last → S w' ∧ wpAnyJ P md ops Q S last n (l.setIfInBounds i true) a' w') ∧ (i = last → wpAny P md ops Q n (l.setIfInBounds i true) a' w')) a w

theorem wpAny_of_J : ∀ (n : Nat) (l : Array Bool) (a : Act) (w : World), wpAnyJ P md ops Q S last n l a w → wpAny P md ops Q n l a w
  | 0, _, _, _, h => h
  | n + 1, _, _, _, h => ⟨h.1, fun i hi => wpOp_mono (fun a' w' h' => by
      by_cases e : i = last
      · exact h'.2 e
      · exact wpAny_of_J n _ a' w' (h'.1 e).2) (h.2 i hi)⟩

theorem wpAnyJ_first {i : Nat} {oi : Oper} {v : Value} (hi : ops[i]? = some oi) (hsel : ∀ (j : Nat) (o : Oper) cs b, ops[j]? = some o → o.op ≠ .select cs b)
    (hQ : ∀ c a w, Q (.panic c) (a.put oi.dst v) w → Q (.panic c) a w) (hw : ∀ l : Array Bool, i ∈ Region.ready md ops l → ¬ last ∈ Region.ready md ops l) :
    ∀ (n : Nat) (l : Array Bool) (a : Act) (w : World),
      (∀ j oj, ops[j]? = some oj → j ≠ i → l.getD j true = false → (∀ e ∈ oj.after, Region.binds md e = true → e.on ≠ i) → oi.apart ops oj = true) →
      i ∈ Region.ready md ops l → YieldsIf P ops S oi v a → S w → i ≠ last →
      wpAnyJ P md ops Q S last n (l.setIfInBounds i true) (a.put oi.dst v) w → wpAnyJ P md ops Q S last (n + 1) l a w := by
  intro n
  induction n with
  | zero =>
    intro l a w _ hr hy hS hil H
    refine ⟨fun h => (by rw [h] at hr; cases hr), fun j hj => ?_⟩
    by_cases hji : j = i
    · subst hji; exact hy.wpOp hi hS ⟨fun _ => ⟨hS, H⟩, fun e => absurd e hil⟩
    · have := ready_mono hj hji
      rw [H.1] at this
      cases this
  | succ n ih =>
    intro l a w hfree hr hy hS hil H
    refine ⟨fun h => (by rw [h] at hr; cases hr), fun j hj => ?_⟩
    by_cases hji : j = i
    · subst hji; exact hy.wpOp hi hS ⟨fun _ => ⟨hS, H⟩, fun e => absurd e hil⟩
    · have hjl : j ≠ last := fun e => hw _ hr (e ▸ hj)
      have h1 := H.2 j (ready_mono hj hji)
      obtain ⟨hjun, oj, hoj, hall⟩ := mem_ready.1 hj
      have hnot : ∀ e ∈ oj.after, Region.binds md e = true → e.on ≠ i := fun e he hb heq => by
        have h1 := hall e he hb
        have h0 := (mem_ready.1 hr).1
        rw [heq] at h1
        rcases Nat.lt_or_ge i l.size with h' | h'
        · simp [h'] at h0 h1; rw [h0] at h1; cases h1
        · simp [Array.getElem?_eq_none h'] at h1
      have h2 := wpOp_putIf hoj (hfree j oj hoj hji hjun hnot) (fun cs b => hsel i oi cs b hi) (fun cs b => hsel j oj cs b hoj) hQ hy h1
      refine wpOp_mono (fun a' w' h3 => ⟨fun _ => ?_, fun e => absurd e hjl⟩) h2
      obtain ⟨hS', h4⟩ := h3.2.1 hjl
      refine ⟨hS', ih (l.setIfInBounds j true) a' w' ?_ (ready_mono hr (Ne.symm hji)) h3.1 hS' hil ?_⟩
      · intro k ok hk hki hun hno
        refine hfree k ok hk hki ?_ hno
        by_cases hjk : j = k
        · subst hjk; exact hjun
        · rw [getD_set_ne true hjk] at hun; exact hun
      · rw [Array.setIfInBounds_comm _ _ hji]
        exact h4

/-- take number i first -/
theorem wpAnyJ_take (i : Nat) {oi : Oper} {v : Value} {n : Nat} {l : Array Bool} {a : Act} {w : World} (hi : ops[i]? = some oi)
    (hs : Region.noSelect ops = true) (hf : Region.free md ops l i = true) (hr : (Region.ready md ops l).contains i = true) (hw : waitsB md ops last i = true) (hil : i ≠ last)
    (hQ : ∀ c a w, Q (.panic c) (a.put oi.dst v) w → Q (.panic c) a w) (hy : YieldsIf P ops S oi v a) (hS : S w)
    (h : wpAnyJ P md ops Q S last n (l.setIfInBounds i true) (a.put oi.dst v) w) : wpAnyJ P md ops Q S last (n + 1) l a w :=
  wpAnyJ_first hi (Region.noSelect_spec hs) hQ (fun _ h => not_last hw h) n l a w (Region.free_spec hi hf) (by simpa using hr) hy hS hil h

theorem wpAnyJ_pfirst {i : Nat} {oi : Oper} {v : Value} (hi : ops[i]? = some oi) (hsel : ∀ (j : Nat) (o : Oper) cs b, ops[j]? = some o → o.op ≠ .select cs b)
    (hQ : ∀ c a w, Q (.panic c) (a.put oi.dst v) w → Q (.panic c) a w) :
    ∀ (n : Nat) (l : Array Bool) (a : Act) (w : World),
      (∀ j oj, ops[j]? = some oj → j ≠ i → l.getD j true = false → (∀ e ∈ oj.after, Region.binds md e = true → e.on ≠ i) → oi.apart ops oj = true) →
      i ∈ Region.ready md ops l → Yields P ops oi v a → S w → i ≠ last →
      wpAnyJ P md ops Q S last n (l.setIfInBounds i true) (a.put oi.dst v) w → wpAnyJ P md ops Q S last (n + 1) l a w := by
  intro n
  induction n with
  | zero =>
    intro l a w _ hr hy hS hil H
    refine ⟨fun h => (by rw [h] at hr; cases hr), fun j hj => ?_⟩
    by_cases hji : j = i
    · subst hji; exact hy.wpOp hi ⟨fun _ => ⟨hS, H⟩, fun e => absurd e hil⟩
    · have := ready_mono hj hji
      rw [H.1] at this
      cases this
  | succ n ih =>
    intro l a w hfree hr hy hS hil H
    refine ⟨fun h => (by rw [h] at hr; cases hr), fun j hj => ?_⟩
    by_cases hji : j = i
    · subst hji; exact hy.wpOp hi ⟨fun _ => ⟨hS, H⟩, fun e => absurd e hil⟩
    · have h1 := H.2 j (ready_mono hj hji)
      obtain ⟨hjun, oj, hoj, hall⟩ := mem_ready.1 hj
      have hnot : ∀ e ∈ oj.after, Region.binds md e = true → e.on ≠ i := fun e he hb heq => by
        have h1 := hall e he hb
        have h0 := (mem_ready.1 hr).1
        rw [heq] at h1
        rcases Nat.lt_or_ge i l.size with h' | h'
        · simp [h'] at h0 h1; rw [h0] at h1; cases h1
        · simp [Array.getElem?_eq_none h'] at h1
      have h2 := wpOp_put hoj (hfree j oj hoj hji hjun hnot) (fun cs b => hsel i oi cs b hi) (fun cs b => hsel j oj cs b hoj) hQ hy h1
      have hfree' : ∀ k ok, ops[k]? = some ok → k ≠ i → (l.setIfInBounds j true).getD k true = false →
          (∀ e ∈ ok.after, Region.binds md e = true → e.on ≠ i) → oi.apart ops ok = true := fun k ok hk hki hun hno => by
        refine hfree k ok hk hki ?_ hno
        by_cases hjk : j = k
        · subst hjk; exact hjun
        · rw [getD_set_ne true hjk] at hun; exact hun
      refine wpOp_mono (fun a' w' h3 => ⟨fun hjl => ?_, fun e => ?_⟩) h2
      · obtain ⟨hS', h4⟩ := h3.2.1 hjl
        rw [Array.setIfInBounds_comm _ _ (Ne.symm hji)] at h4
        exact ⟨hS', ih (l.setIfInBounds j true) a' w' hfree' (ready_mono hr (Ne.symm hji)) h3.1 hS' hil h4⟩
      · have h4 := h3.2.2 e
        rw [Array.setIfInBounds_comm _ _ (Ne.symm hji)] at h4
        exact wpAny_first hi hsel hQ n (l.setIfInBounds j true) a' w' hfree' (ready_mono hr (Ne.symm hji)) h3.1 h4

/-- take number i first, one that looks into no memory -/
theorem wpAnyJ_ptake (i : Nat) {oi : Oper} {v : Value} {n : Nat} {l : Array Bool} {a : Act} {w : World} (hi : ops[i]? = some oi)
    (hs : Region.noSelect ops = true) (hf : Region.free md ops l i = true) (hr : (Region.ready md ops l).contains i = true) (hil : i ≠ last)
    (hQ : ∀ c a w, Q (.panic c) (a.put oi.dst v) w → Q (.panic c) a w) (hy : Yields P ops oi v a) (hS : S w)
    (h : wpAnyJ P md ops Q S last n (l.setIfInBounds i true) (a.put oi.dst v) w) : wpAnyJ P md ops Q S last (n + 1) l a w :=
  wpAnyJ_pfirst hi (Region.noSelect_spec hs) hQ n l a w (Region.free_spec hi hf) (by simpa using hr) hy hS hil h

/-- the one that may come up -/
theorem wpAnyJ_one (i : Nat) {n : Nat} {l : Array Bool} {a : Act} {w : World} (hr : Region.ready md ops l = [i])
    (h : wpOp P ops Q i (fun a' w' => (i ≠ last → S w' ∧ wpAnyJ P md ops Q S last n (l.setIfInBounds i true) a' w') ∧ (i = last → wpAny P md ops Q n (l.setIfInBounds i true) a' w')) a w) : wpAnyJ P md ops Q S last (n + 1) l a w :=
  ⟨fun h0 => (by rw [hr] at h0; cases h0), fun j hj => (by rw [hr] at hj; simp at hj; subst hj; exact h)⟩

theorem wpAny_one' (i : Nat) {n : Nat} {l : Array Bool} {a : Act} {w : World} (hr : Region.ready md ops l = [i])
    (h : wpOp P ops Q i (fun a' w' => wpAny P md ops Q n (l.setIfInBounds i true) a' w') a w) : wpAny P md ops Q (n + 1) l a w :=
  ⟨fun h0 => (by rw [hr] at h0; cases h0), fun j hj => (by rw [hr] at hj; simp at hj; subst hj; exact h)⟩
theorem wpAny_done' {l : Array Bool} {a : Act} {w : World} (hr : Region.ready md ops l = []) (h : Q .normal a w) : ∀ n, wpAny P md ops Q n l a w
  | 0 => ⟨hr, h⟩
  | _ + 1 => ⟨fun _ => h, by rw [hr]; simp⟩

theorem wp_region_J {id : Nat} {a : Act} {w : World} (hm : P.follows .mixedOrders = true) (S : World → Prop) (last : Nat)
    (h : wpAnyJ P .any ops Q S last ops.size (Array.replicate ops.size false) a w.drew) : (Code.region id ops true).wp P Q a w :=
  wp_region_any hm (wpAny_of_J _ _ _ _ h)
end
end Go
