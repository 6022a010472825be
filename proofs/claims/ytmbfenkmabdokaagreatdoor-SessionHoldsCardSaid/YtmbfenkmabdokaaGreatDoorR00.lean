/- Parts of the proof: Base, Sum, App, Crc. -/
import Derived.Test.YtmbfenkmabdokaaGreatDoorProg
import Derived.WalkKit
import Derived.WalkSpells
import Derived.WalkLawsBesides
import Derived.IntWalk
import Derived.Lib.Hide
import Derived.Deep.OwnRows
import Derived.Deep.AppendSrc
import Derived.Deep.RegionLaw
import Derived.Lib.AppendZeros
import Derived.Deep.QuietTactic
import Derived.BigQuiet
import Derived.StillTailTactics
set_option linter.all false
namespace Go.Proofs.YtmbfenkmabdokaaGreatDoor
open Go.RowKit

/-! ### Worlds -/

/-- From w to w' nothing that was there has turned, but for the blocks of F. -/
structure Kp (F : Nat → Prop) (w w' : World) : Prop where
  os : w'.os = w.os
  tape : w'.tape = w.tape
  output : w'.output = w.output
  size : w.heap.size ≤ w'.heap.size
  block : ∀ k, k < w.heap.size → ¬ F k → w'.heap[k]? = w.heap[k]?

/-- No block. -/
def No : Nat → Prop := fun _ => False

theorem Kp.refl (F : Nat → Prop) (w : World) : Kp F w w := ⟨rfl, rfl, rfl, Nat.le_refl _, fun _ _ _ => rfl⟩
theorem Kp.trans {F : Nat → Prop} {a b c : World} (h : Kp F a b) (k : Kp F b c) : Kp F a c :=
  ⟨k.os.trans h.os, k.tape.trans h.tape, k.output.trans h.output, Nat.le_trans h.size k.size, fun i hi hf => (k.block i (Nat.lt_of_lt_of_le hi h.size) hf).trans (h.block i hi hf)⟩
theorem Kp.mono {F G : Nat → Prop} {a b : World} (h : Kp F a b) (hG : ∀ k, F k → G k) : Kp G a b :=
  ⟨h.os, h.tape, h.output, h.size, fun k hk hn => h.block k hk (fun hf => hn (hG k hf))⟩
/-- Two steps, the second of which may turn what is new. -/
theorem Kp.trans' {F G : Nat → Prop} {a b c : World} (h : Kp F a b) (k : Kp G b c) (hG : ∀ i, i < a.heap.size → G i → F i) : Kp F a c :=
  ⟨k.os.trans h.os, k.tape.trans h.tape, k.output.trans h.output, Nat.le_trans h.size k.size,
    fun i hi hf => (k.block i (Nat.lt_of_lt_of_le hi h.size) (fun hg => hf (hG i hi hg))).trans (h.block i hi hf)⟩
theorem Kp.of_below {w w' : World} (h : Below w.heap.size w w') (F : Nat → Prop) : Kp F w w' :=
  ⟨h.os, h.tape, h.output, h.size, fun k hk _ => h.block k hk⟩
theorem Kp.below {w w' : World} (h : Kp No w w') : Below w.heap.size w w' :=
  ⟨h.os, h.tape, h.output, h.size, fun k hk => h.block k hk (fun hf => hf)⟩
theorem Kp.cell {F : Nat → Prop} {w w' : World} (h : Kp F w w') {p : Addr} (hp : p.block < w.heap.size) (hf : ¬ F p.block) : w'.cell? p = w.cell? p :=
  World.cell?_of_block (w := w) (h.block p.block hp hf)
theorem Kp.frozen {F : Nat → Prop} {w w' : World} (h : Kp F w w') {p : Addr} (hp : p.block < w.heap.size) (hf : ¬ F p.block) : w'.frozen? p = w.frozen? p :=
  World.frozen?_of_block (w := w) (h.block p.block hp hf)

theorem lt_of_heap {w : World} {k : Nat} {o : Obj} (h : w.heap[k]? = some o) : k < w.heap.size := by
  rcases Nat.lt_or_ge k w.heap.size with h' | h'
  · exact h'
  · rw [Array.getElem?_eq_none h'] at h; cases h
theorem lt_of_cell {w : World} {p : Addr} {v : Value} (h : w.cell? p = some v) : p.block < w.heap.size := by
  unfold World.cell? at h
  split at h
  · exact lt_of_heap ‹_›
  · cases h

theorem below_draws {B : Nat} {a w : World} (h : Below B a w) (n : Nat) : Below B a (w.drewN n) :=
  below_drewN h n

/-- all old cells and marks read as before: what the walk wants behind a contract that ends in 'Below' -/
theorem bcell {W w1 : World} (hb : Below W.heap.size W w1) : (∀ b o, b < W.heap.size → w1.cell? ⟨b, o, none⟩ = W.cell? ⟨b, o, none⟩) ∧ (∀ b o, b < W.heap.size → w1.frozen? ⟨b, o, none⟩ = W.frozen? ⟨b, o, none⟩) :=
  ⟨fun b o h => hb.cell (p := ⟨b, o, none⟩) h, fun b o h => hb.frozen (p := ⟨b, o, none⟩) h⟩

/-! ### Bytes -/

abbrev Bytes := List UInt8
/-- bytes as cells -/
def bv (c : UInt8) : Value := .int .u8 (c.toNat : Int)
def bcs (l : Bytes) : List Value := l.map bv

/-- big-endian number -/
def be (l : Bytes) : Nat := l.foldl (fun u c => u * 256 + c.toNat) 0
/-- a number as bytes -/
def numB (n size : Nat) : Bytes := (List.range size).map fun i => UInt8.ofNat (n / 256 ^ (size - 1 - i))

theorem be_snoc (l : Bytes) (c : UInt8) : be (l ++ [c]) = be l * 256 + c.toNat := by simp [be]
theorem be_lt (l : Bytes) : be l < 256 ^ l.length := by
  suffices ∀ (l : Bytes) (u : Nat), l.foldl (fun u c => u * 256 + c.toNat) u < (u + 1) * 256 ^ l.length by simpa [be] using this l 0
  intro l
  induction l with
  | nil => intro u; simp
  | cons c l ih =>
    intro u
    have h1 := ih (u * 256 + c.toNat)
    have hc := c.toNat_lt
    simp only [List.foldl_cons, List.length_cons, Nat.pow_succ]
    refine Nat.lt_of_lt_of_le h1 ?_
    rw [Nat.mul_comm (256 ^ l.length) 256, ← Nat.mul_assoc]
    exact Nat.mul_le_mul_right _ (by omega)
theorem take_succ_getD (l : Bytes) (k j : Nat) (h : k + j < l.length) : (l.drop k).take (j + 1) = (l.drop k).take j ++ [l.getD (k + j) 0] := by
  rw [List.take_succ_eq_append_getElem (by simp; omega)]; simp [List.getD_eq_getElem?_getD, List.getElem?_eq_getElem h]
theorem numB_length (n size : Nat) : (numB n size).length = size := by simp [numB]

/-- A row of bytes that can be read: it is empty, or it lies from an address on. -/
def RdB (w : World) (A : Option Addr) (l : Bytes) : Prop :=
  l = [] ∨ ∃ b o, A = some ⟨b, o, none⟩ ∧ ∀ i, i < l.length → w.cell? ⟨b, o + i, none⟩ = some (.int .u8 ((l[i]?.getD 0).toNat : Int))

theorem RdB.keep {F : Nat → Prop} {w w' : World} {A : Option Addr} {l : Bytes} (h : RdB w A l) (k : Kp F w w') (hF : ∀ a, A = some a → ¬ F a.block) : RdB w' A l := by
  rcases h with h | ⟨b, o, hA, h⟩
  · exact .inl h
  · refine .inr ⟨b, o, hA, fun i hi => ?_⟩
    rw [k.cell (p := ⟨b, o + i, none⟩) (lt_of_cell (h i hi)) (fun hf => hF ⟨b, o, none⟩ hA hf)]
    exact h i hi
theorem RdB.below {w w' : World} {A : Option Addr} {l : Bytes} (h : RdB w A l) (k : Below w.heap.size w w') : RdB w' A l :=
  h.keep (Kp.of_below k No) (fun _ _ hf => hf)

/-! ### Types -/
theorem info_u8 : (Tryz.prog.info? 5).map (fun i => (i.zero, i.size, i.bytes)) = some (some (.int .u8 0), 1, 1) := by kernel_rfl

end Go.Proofs.YtmbfenkmabdokaaGreatDoor

namespace Go.Proofs.YtmbfenkmabdokaaGreatDoor
open Go.RowKit

theorem ret_int {k : IntKind} {a b : Int} (h : a = b) : Ending.returned (.int k a) = .returned (.int k b) := by rw [h]

set_option maxHeartbeats 400000 in
theorem Read_bad (A : Option Addr) (n c : Nat) (at_ size : Int) (w : World) (hn : n ≤ maxLen)
    (hbad : ¬ (1 ≤ size ∧ size ≤ 8 ∧ 0 ≤ at_ ∧ at_ + size ≤ n)) (h3 : -maxLen ≤ at_ ∧ at_ ≤ maxLen) (h4 : -maxLen ≤ size ∧ size ≤ maxLen) :
    Calls Tryz.prog 110 #[.slice A n c, .int .i64 at_, .int .i64 size] w fun e w' => e = .returned (.tuple #[.int .i64 0, .int .i64 1]) ∧ w = w' := by
  unfold maxLen at *
  go_enter Tryz.func110, Tryz.ntmps110
  go_wp2_with fail
  all_goals (go_ret2; exact ⟨rfl, rfl⟩)

theorem or_byte (u : Nat) (c : UInt8) (hu : u * 256 + c.toNat < 18446744073709551616) :
    bits BinOp.or IntKind.u64 (IntKind.u64.wrap ((u : Int) * 256)) (IntKind.u64.wrap (c.toNat : Int)) = ((u * 256 + c.toNat : Nat) : Int) := by
  have hc := c.toNat_lt
  have e1 : IntKind.u64.wrap ((u : Int) * 256) = ((u * 256 : Nat) : Int) := by rw [IntKind.wrap_u64]; omega
  have e2 : IntKind.u64.wrap (c.toNat : Int) = ((c.toNat : Nat) : Int) := by rw [IntKind.wrap_u64]; omega
  have h1 : u * 256 < 18446744073709551616 := Nat.lt_of_le_of_lt (Nat.le_add_right _ _) hu
  have h2 : c.toNat < 18446744073709551616 := Nat.lt_trans hc (by decide)
  rw [e1, e2, u64_or_nat _ _ h1 h2, nat_join 8 (u * 256) c.toNat (by omega) hc]

set_option maxHeartbeats 400000 in
theorem Read_ok (b o : Nat) (l : Bytes) (c : Nat) (k size : Nat) (w : World) (hn : l.length ≤ maxLen) (hcap : l.length ≤ c)
    (hl : ∀ i, i < l.length → w.cell? ⟨b, o + i, none⟩ = some (.int .u8 ((l[i]?.getD 0).toNat : Int))) (h1 : 1 ≤ size) (h2 : size ≤ 8) (h3 : k + size ≤ l.length) :
    Calls Tryz.prog 110 #[.slice (some ⟨b, o, none⟩) l.length c, .int .i64 k, .int .i64 size] w fun e w' =>
      e = .returned (if be ((l.drop k).take size) < 2 ^ 63 then .tuple #[.int .i64 (be ((l.drop k).take size)), .int .i64 0] else .tuple #[.int .i64 0, .int .i64 1]) ∧ w = w' := by
  unfold maxLen at *
  go_enter Tryz.func110, Tryz.ntmps110
  go_wp2_with fail
  go_loop [8, 36] (fun u i => ∃ j : Nat, j ≤ size ∧ i = .int .i64 j ∧ u = .int .u64 (be ((l.drop k).take j))) (fun _ i => size - (intOf i).toNat)
  case atStart => exact ⟨0, Nat.zero_le _, rfl, rfl⟩
  case round =>
    obtain ⟨j, hj, rfl, rfl⟩ := hrel
    by_cases hlt : j < size
    · have hc := hl (k + j) (by omega)
      rw [show o + (k + j) = o + k + j from by omega] at hc
      have hlen : ((l.drop k).take j).length = j := by simp; omega
      have hbd := be_lt ((l.drop k).take (j + 1))
      have hp : 256 ^ ((l.drop k).take (j + 1)).length ≤ 256 ^ 8 := Nat.pow_le_pow_right (by omega) (by simp; omega)
      have hs : be ((l.drop k).take (j + 1)) = be ((l.drop k).take j) * 256 + (l[k + j]?.getD 0).toNat := by
        rw [take_succ_getD _ _ _ (by omega), be_snoc]; simp
      have ho := or_byte (be ((l.drop k).take j)) (l[k + j]?.getD 0) (by omega)
      have HS := Lib.hid hs; have HO := Lib.hid ho; clear hs ho hbd hp hlen
      go_wp2
      refine ⟨⟨j + 1, by omega, by go_num, ?_⟩, by simp [intOf]; omega⟩
      rw [HO.out, HS.out]
    · obtain rfl : j = size := by omega
      go_wp2
      · go_ret2
        exact ⟨rfl, rfl⟩
      · go_ret2
        exact ⟨rfl, rfl⟩

/-- the cells of a number of 'size' bytes of which the last j are laid -/
def numL (n size j : Nat) : List Value := (List.range size).map fun i => if size - j ≤ i then bv (UInt8.ofNat (n / 256 ^ (size - 1 - i))) else .int .u8 0
def numCells (n size j : Nat) : Array Value := (numL n size j).toArray

theorem numCells_zero (n size : Nat) : madeCells #[.int .u8 0] size = numCells n size 0 := by
  unfold numCells
  apply Array.ext
  · simp [madeCells, numL]
  · intro i h1 h2
    simp [numL] at h2
    simp [madeCells, numL, Nat.mod_one]; omega

theorem numCells_step (n size j : Nat) (h : j < size) : (numCells n size j).setIfInBounds (size - 1 - j) (bv (UInt8.ofNat (n / 256 ^ j))) = numCells n size (j + 1) := by
  simp only [numCells, List.setIfInBounds_toArray, numL]
  congr 1
  apply List.ext_getElem
  · simp
  · intro i h1 h2
    simp at h2
    simp only [List.getElem_set, List.getElem_map, List.getElem_range]
    by_cases e : size - 1 - j = i
    · subst e
      rw [if_pos rfl, if_pos (by omega), show size - 1 - (size - 1 - j) = j from by omega]
    · rw [if_neg e]
      by_cases h3 : size - j ≤ i
      · rw [if_pos h3, if_pos (by omega)]
      · rw [if_neg h3, if_neg (by omega)]

theorem numCells_end (n size : Nat) : numCells n size size = (bcs (numB n size)).toArray := by
  simp [numCells, numL, numB, bcs]

theorem numCells_get (n size j k : Nat) (h : k < size) : ∃ v, (numCells n size j)[k]? = some v := by
  simp [numCells, numL, h]

theorem byte_div (n j : Nat) : ((n : Int) / 2 ^ (8 * j) % 256) = ((UInt8.ofNat (n / 256 ^ j)).toNat : Int) := by
  rw [show (256 : Nat) ^ j = 2 ^ (8 * j) from by rw [Nat.pow_mul]]
  simp [UInt8.toNat_ofNat']

set_option maxRecDepth 100000 in
set_option maxHeartbeats 400000 in
theorem Number_ok (n size : Nat) (w : World) (h1 : 1 ≤ size) (h2 : size ≤ 8) (hn : n < 256 ^ size) (hn2 : n ≤ maxLen) :
    Calls Tryz.prog 95 #[.int .i64 n, .int .i64 size] w fun e w' =>
      e = .returned (.tuple #[.slice (some ⟨w.heap.size, 0, none⟩) size size, .int .i64 0]) ∧ w' = w.alloc (.cells (bcs (numB n size)).toArray 5) := by
  unfold maxLen at *
  have hs : ((n : Int) / 2 ^ (8 * size) != 0) = false := by
    have : n / 2 ^ (8 * size) = 0 := Nat.div_eq_of_lt (by rw [Nat.pow_mul]; exact hn)
    rw [bne_eq_false_iff_eq]; exact_mod_cast congrArg (fun (x : Nat) => (x : Int)) this
  have Hn := Lib.hid hn; clear hn
  have hmk := run_make_row' (P := Tryz.prog) 26 5 (.int .u8 0) 1 Tryz.underlying26 info_u8 rfl .i64 .i64 size (by omega) (by omega)
  rw [numCells_zero n size] at hmk
  by_cases h8 : size < 8
  all_goals
    go_enter Tryz.func95, Tryz.ntmps95
    go_wp2_with fail
    go_loopw [33] (fun i wr => ∃ j : Nat, j ≤ size ∧ i = .int .i64 j ∧ wr = w.alloc (.cells (numCells n size j) 5)) (fun i _ => size - (intOf i).toNat)
    case atStart => exact ⟨0, Nat.zero_le _, rfl, rfl⟩
    case round =>
      obtain ⟨j, hj, rfl, rfl⟩ := hrel
      by_cases hlt : j < size
      · have hst := numCells_step n size j hlt
        have Hst := Lib.hid hst; clear hst
        obtain ⟨v0, hv0⟩ := numCells_get n size j (size - 1 - j) (by omega)
        go_wp2
        refine ⟨⟨j + 1, by omega, by go_num, ?_⟩, by simp [intOf]; omega⟩
        rw [byte_div]; exact congrArg (fun x => w.alloc (Obj.cells x 5)) Hst.out
      · obtain rfl : j = size := by omega
        go_wp2
        go_ret2
        exact ⟨rfl, by rw [numCells_end]⟩

end Go.Proofs.YtmbfenkmabdokaaGreatDoor

namespace Go
open Go.RowKit
section
variable {P : Program} (w : World)

theorem run_append_room_s (t tx ty e : TypeId) (i : TypeInfo) (ht : P.underlying t = some (.slice e)) (hi : P.info? e = some i)
    (g sLen sCap : Nat) (cur : Array Value) (hg : w.heap[g]? = some (.cells cur e (0, 0)))
    (x : Value) (m : Nat) (news : List Value) (hs : Src P i.size tx x m news w)
    (hroom : sLen + m ≤ sCap) (hfit : sLen * i.size + news.length ≤ cur.size) :
    (Builtin.append_ #[t, tx] ty #[.slice (some ⟨g, 0, none⟩) sLen sCap, x]).run P w =
      .ok (.slice (some ⟨g, 0, none⟩) (sLen + m) sCap) (w.setRow g (cur.toList.take (sLen * i.size) ++ news ++ cur.toList.drop (sLen * i.size + news.length)).toArray) := by
  have hst := run_storeCells_at P g (sLen * i.size) e news 0 cur w hg (by simpa using hfit) hs.one
  simp only [Nat.add_zero] at hst
  rcases hs.kind with ⟨e', hk⟩ | hk <;> simp [Builtin.append_, run_underlying ht, run_underlying hk, sizeOf, typeInfo, hi, hs.len, hroom, hs.cells, Addr.add_lit, hst]

/-- append onto a row that is owned, of whatever source -/
theorem run_append_src (base : Nat) (t tx ty e : TypeId) (i : TypeInfo) (z : Value) (size bytes : Nat) (ht : P.underlying t = some (.slice e)) (hi : P.info? e = some i) (hz : i.zero = some z)
    (hsize : i.size = size) (hby : i.bytes = bytes) (hzs : z.cells.size = size)
    (v : Value) (n : Nat) (xs : List Value) (hown : w.ownsRow base e size v n xs)
    (x : Value) (m : Nat) (news : List Value) (hs : Src P size tx x m news w)
    (h63 : n + m ≤ maxLen) (hbytes : (n + m) * bytes ≤ 140737488355328) (hbase : base ≤ w.heap.size) :
    ∃ v' w', (Builtin.append_ #[t, tx] ty #[v, x]).run P w = .ok v' w' ∧ w'.ownsRow base e size v' (n + m) (xs ++ news) ∧ w.grownBy w' v.ownBlock := by
  subst hsize
  subst hby
  have hsmall : n + m ≤ 9223372036854775807 := by simp only [maxLen] at h63; omega
  have hlen : (xs ++ news).length = (n + m) * i.size := by rw [List.length_append, hown.1, hs.newsLen, Nat.add_mul]
  have grown : ∀ (old : Nat), old < n + m → ∀ (row : Option Nat),
      (w.drew.alloc (.cells ((xs ++ news).toArray ++ Builtin.zeroCells z.cells (grownCap w (n + m) old e - (n + m))) e)).ownsRow base e i.size
        (.slice (some ⟨w.heap.size, 0, none⟩) (n + m) (grownCap w (n + m) old e)) (n + m) (xs ++ news) ∧
      w.grownBy (w.drew.alloc (.cells ((xs ++ news).toArray ++ Builtin.zeroCells z.cells (grownCap w (n + m) old e - (n + m))) e)) row := by
    intro old ho row
    have hge := grownCap_ge w (n + m) old e
    have hcm : grownCap w (n + m) old e ≤ maxLen := grownCap_le_maxLen w (n + m) old e h63
    refine ⟨⟨hlen, .inr ⟨w.heap.size, _, _, rfl, hbase, heap_alloc_new w.drew _, hge, hcm, ?_, ?_⟩⟩, ⟨rfl, rfl, rfl, by simp, fun k hk _ => Below.heap_alloc w.drew _ k hk⟩⟩
    · simp only [Array.size_append, List.size_toArray, List.length_append, size_zeroCells, hzs, hown.1, hs.newsLen, ← Nat.add_mul]
      congr 1
      omega
    · simp only [Array.toList_append]
      rw [← hlen]
      exact List.take_left
  rcases hown.2 with ⟨rfl, rfl⟩ | ⟨g, cap, cur, rfl, hbg, hg, hnc, hcm, hcs, htake⟩
  · have hx : xs = [] := List.eq_nil_of_length_eq_zero (by simpa using hown.1)
    subst hx
    by_cases hm : m = 0
    · subst hm
      have hn : news = [] := List.eq_nil_of_length_eq_zero (by simpa using hs.newsLen)
      subst hn
      refine ⟨.slice none 0 0, w, ?_, World.ownsRow_nil w base e i.size, ⟨rfl, rfl, rfl, Nat.le_refl _, fun _ _ _ => rfl⟩⟩
      rcases hs.kind with ⟨e', hk⟩ | hk <;> simp [Builtin.append_, run_underlying ht, run_underlying hk, sizeOf, typeInfo, hi, hs.len, hs.cells]
    · have hr := run_append_grow_src (P := P) w t tx ty e i z ht hi hz none 0 0 [] (by simp [Builtin.firstCells]) x m news hs (by omega) (by omega) (growslice_fits (by omega) hbytes)
      have hgr := grown 0 (by omega) (Value.ownBlock (.slice none 0 0))
      simp only [Nat.zero_add, List.nil_append] at hgr hr ⊢
      exact ⟨_, _, hr, hgr.1, hgr.2⟩
  · by_cases hroom : n + m ≤ cap
    · have hfit : n * i.size + news.length ≤ cur.size := by rw [hs.newsLen, hcs, ← Nat.add_mul]; exact Nat.mul_le_mul_right _ hroom
      have hr := run_append_room_s (P := P) w t tx ty e i ht hi g n cap cur hg x m news hs hroom hfit
      refine ⟨_, _, hr, ⟨hlen, .inr ⟨g, cap, _, rfl, hbg, setRow_heap w g cur _ e _ hg, hroom, hcm, ?_, ?_⟩⟩, ⟨rfl, rfl, rfl, by simp, fun k _ hk => setRow_other w g k _ (fun e => hk (by simp [Value.ownBlock, e]))⟩⟩
      · simp only [List.size_toArray, List.length_append, List.length_take, List.length_drop, Array.length_toList]
        omega
      · rw [htake, ← hlen]
        exact List.take_left
    · have holds : ∀ j u, xs[j]? = some u → w.drew.cell? ((⟨g, 0, none⟩ : Addr).add j) = some u := hown.cells (g := g) rfl
      have hr := run_append_grow_src (P := P) w t tx ty e i z ht hi hz (some ⟨g, 0, none⟩) n cap xs (run_firstCells_some w.drew i.size n ⟨g, 0, none⟩ n cap xs hown.1 holds) x m news hs (by omega) (by omega) (growslice_fits (by omega) hbytes)
      have hgr := grown cap (by omega) (Value.ownBlock (.slice (some ⟨g, 0, none⟩) n cap))
      exact ⟨_, _, hr, hgr.1, hgr.2⟩

theorem wp_append_src {o : Oper} {a : Act} {K : Act → World → Prop} {Q : Exit → Act → World → Prop} (s x : Operand) (t tx : TypeId)
    (ho : o.op = .call { callee := .builtin .append, args := #[s, x], argTypes := #[t, tx] })
    (base : Nat) (e : TypeId) (i : TypeInfo) (z : Value) (size bytes : Nat) (ht : P.underlying t = some (.slice e)) (hi : P.info? e = some i) (hz : i.zero = some z)
    (hsize : i.size = size) (hby : i.bytes = bytes) (hzs : z.cells.size = size)
    (v xv : Value) (n : Nat) (xs : List Value) (hs : a.eval s = v) (hx : a.eval x = xv) (hown : w.ownsRow base e size v n xs)
    (m : Nat) (news : List Value) (hsrc : Src P size tx xv m news w)
    (h63 : n + m ≤ maxLen) (hbytes : (n + m) * bytes ≤ 140737488355328) (hbase : base ≤ w.heap.size)
    (h : ∀ v' w', w'.ownsRow base e size v' (n + m) (xs ++ news) → w.grownBy w' v.ownBlock → K (a.put o.dst v') w') : o.wp P a w K Q := by
  obtain ⟨v', w', hr, h2, h3⟩ := run_append_src (P := P) w base t tx o.type e i z size bytes ht hi hz hsize hby hzs v n xs hown xv m news hsrc h63 hbytes hbase
  unfold Oper.wp execOp
  simp only [ho, resolve, invoke, builtin, Sem.run_bind, Sem.run_pure, Result.andThen_ok, List.map_toArray, List.map_cons, List.map_nil, hs, hx, hr]
  exact h v' w' h2 h3

/-- FOR THE WALK -/
theorem wpList_append_src {ops : Array Oper} {rest : List Oper} {o : Oper} {a : Act} {Q : Exit → Act → World → Prop} (hgd : o.guard = none) (s x : Operand) (t tx : TypeId)
    (ho : o.op = .call { callee := .builtin .append, args := #[s, x], argTypes := #[t, tx] })
    (base : Nat) (e : TypeId) (i : TypeInfo) (z : Value) (size bytes : Nat) (ht : P.underlying t = some (.slice e)) (hi : P.info? e = some i) (hz : i.zero = some z)
    (hsize : i.size = size) (hby : i.bytes = bytes) (hzs : z.cells.size = size)
    (v xv : Value) (n : Nat) (xs : List Value) (hs : a.eval s = v) (hx : a.eval x = xv) (hown : w.ownsRow base e size v n xs)
    (m : Nat) (news : List Value) (hsrc : Src P size tx xv m news w)
    (h63 : n + m ≤ maxLen) (hbytes : (n + m) * bytes ≤ 140737488355328) (hbase : base ≤ w.heap.size)
    (h : ∀ v' w', w'.ownsRow base e size v' (n + m) (xs ++ news) → w.grownBy w' v.ownBlock → wpList P ops Q rest (a.put o.dst v') w') : wpList P ops Q (o :: rest) a w :=
  wpList_plain hgd fun _ hK => wp_append_src w s x t tx ho base e i z size bytes ht hi hz hsize hby hzs v xv n xs hs hx hown m news hsrc h63 hbytes hbase fun v' w' h2 h3 => hK _ _ (h v' w' h2 h3)

/-- the same as one step of a region that draws -/
theorem step_append_src {ops : Array Oper} {o : Oper} {a : Act} {K : Act → World → Prop} {Q : Exit → Act → World → Prop} {E : Prop} (hgd : o.guard = none) (s x : Operand) (t tx : TypeId)
    (ho : o.op = .call { callee := .builtin .append, args := #[s, x], argTypes := #[t, tx] })
    (base : Nat) (e : TypeId) (i : TypeInfo) (z : Value) (size bytes : Nat) (ht : P.underlying t = some (.slice e)) (hi : P.info? e = some i) (hz : i.zero = some z)
    (hsize : i.size = size) (hby : i.bytes = bytes) (hzs : z.cells.size = size)
    (v xv : Value) (n : Nat) (xs : List Value) (hs : a.eval s = v) (hx : a.eval x = xv) (hown : w.ownsRow base e size v n xs)
    (m : Nat) (news : List Value) (hsrc : Src P size tx xv m news w)
    (h63 : n + m ≤ maxLen) (hbytes : (n + m) * bytes ≤ 140737488355328) (hbase : base ≤ w.heap.size)
    (h : ∀ v' w', w'.ownsRow base e size v' (n + m) (xs ++ news) → w.grownBy w' v.ownBlock → K (a.put o.dst v') w') :
    if Region.wanted o (yielded ops a.tmps) = true then Oper.wp P o a w K Q else E := by
  have hw : Region.wanted o (yielded ops a.tmps) = true := by simp [Region.wanted, hgd]
  rw [if_pos hw]
  exact wp_append_src w s x t tx ho base e i z size bytes ht hi hz hsize hby hzs v xv n xs hs hx hown m news hsrc h63 hbytes hbase h
end
end Go

namespace Go.Proofs.YtmbfenkmabdokaaGreatDoor
open Go.RowKit

/-- A row of bytes of the call's own. -/
abbrev OwB (w : World) (base : Nat) (v : Value) (l : Bytes) : Prop := w.ownsRow base 5 1 v l.length (bcs l)

theorem bcs_length (l : Bytes) : (bcs l).length = l.length := by simp [bcs]
theorem bcs_one (l : Bytes) : ∀ u ∈ bcs l, u.oneCell' = true := by
  intro u hu
  simp only [bcs, List.mem_map] at hu
  obtain ⟨c, _, rfl⟩ := hu
  rfl
theorem bcs_get (l : Bytes) (j : Nat) (u : Value) (h : (bcs l)[j]? = some u) : j < l.length ∧ u = .int .u8 ((l[j]?.getD 0).toNat : Int) := by
  simp only [bcs, List.getElem?_map, Option.map_eq_some_iff] at h
  obtain ⟨c, hc, rfl⟩ := h
  obtain ⟨hj, _⟩ := List.getElem?_eq_some_iff.1 hc
  exact ⟨hj, by rw [hc]; rfl⟩

theorem RdB.src {w : World} {A : Option Addr} {l : Bytes} (h : RdB w A l) (c : Nat) : Src Tryz.prog 1 26 (.slice A l.length c) l.length (bcs l) w := by
  rcases h with rfl | ⟨b, o, rfl, h⟩
  · cases A with
    | none => exact Src.ofNil w Tryz.underlying26 c
    | some a => exact Src.ofSlice w Tryz.underlying26 a 0 c [] (by simp) (by simp) (by simp)
  · refine Src.ofSlice w Tryz.underlying26 _ _ c _ (by simp [bcs]) (fun j u hu => ?_) (bcs_one l)
    obtain ⟨hj, rfl⟩ := bcs_get l j u hu
    rw [Addr.add_lit]
    exact h j hj

theorem bcs_append (a b : Bytes) : bcs (a ++ b) = bcs a ++ bcs b := by simp [bcs]
theorem OwB.of_app {w : World} {base : Nat} {v : Value} {a b : Bytes} {n : Nat} (h : w.ownsRow base 5 1 v (a.length + n) (bcs a ++ bcs b)) (hn : b.length = n) : OwB w base v (a ++ b) := by
  unfold OwB
  rw [bcs_append, List.length_append, hn]; exact h
theorem OwB.grown {w w' : World} {base : Nat} {v : Value} {a : Bytes} (h : OwB w base v a) {row : Option Nat} (hg : w.grownBy w' row) {W : World} (hB : Below base W w) (hb : base ≤ w.heap.size) (hr : row = v.ownBlock) : Below base W w' :=
  hB.grown hg hb (fun k hk => by rw [hr] at hk; exact (h.lt k hk).1)

theorem OwB.rd {w : World} {base : Nat} {v : Value} {l : Bytes} (h : OwB w base v l) : ∃ A c, v = .slice A l.length c ∧ l.length ≤ c ∧ c ≤ maxLen ∧ RdB w A l ∧ (∀ a, A = some a → base ≤ a.block ∧ a.block < w.heap.size) := by
  rcases h.2 with ⟨rfl, hn⟩ | ⟨g, cap, cur, rfl, hb, hg, hn, hm, hs, ht⟩
  · exact ⟨none, 0, by rw [hn], by omega, by unfold maxLen; omega, .inl (List.eq_nil_of_length_eq_zero hn), by simp⟩
  · refine ⟨some ⟨g, 0, none⟩, cap, rfl, hn, hm, .inr ⟨g, 0, rfl, fun i hi => ?_⟩, fun a ha => by cases ha; exact ⟨hb, lt_of_heap hg⟩⟩
    have hc := World.ownsRow.cellAt (w := w) h i (by simpa using hi)
    rw [Nat.zero_add, hc]
    simp [bcs, bv, List.getElem?_eq_getElem hi]
end Go.Proofs.YtmbfenkmabdokaaGreatDoor

namespace Go.Proofs.YtmbfenkmabdokaaGreatDoor
open Go.RowKit

/-- the table -/
def nibL : List Nat := [0, 498536548, 997073096, 651767980, 1994146192, 1802195444, 1303535960, 1342533948, 3988292384, 4027552580, 3604390888, 3412177804, 2607071920, 2262029012, 2685067896, 3183342108]
def nib (i : Nat) : Nat := nibL[i]?.getD 0
theorem nib_lt (i : Nat) : nib i < 4294967296 := by
  unfold nib nibL
  rcases i with _|_|_|_|_|_|_|_|_|_|_|_|_|_|_|_|i <;> simp
/-- the variable holds the table -/
def EnvN (w : World) : Prop := ∀ i, i < 16 → w.cell? ⟨3, i, none⟩ = some (.int .u32 (nib i : Int))
theorem EnvN.keep {F : Nat → Prop} {w w' : World} (h : EnvN w) (k : Kp F w w') (hF : ¬ F 3) : EnvN w' := fun i hi => by
  rw [k.cell (p := ⟨3, i, none⟩) (lt_of_cell (h i hi)) hF]; exact h i hi
theorem EnvN.below {w w' : World} (h : EnvN w) (k : Below w.heap.size w w') : EnvN w' := h.keep (Kp.of_below k No) (fun hf => hf)

def crcHalf (s : Nat) : Nat := (s / 16) ^^^ nib (s % 16)
def crcStep (s : Nat) (c : UInt8) : Nat := crcHalf (crcHalf (s ^^^ c.toNat))
def crcGo (l : Bytes) : Nat := l.foldl crcStep 4294967295
def crc (l : Bytes) : Nat := 4294967295 - crcGo l

theorem xor_lt32 {a b : Nat} (ha : a < 4294967296) (hb : b < 4294967296) : a ^^^ b < 4294967296 := Nat.xor_lt_two_pow (n := 32) ha hb
theorem crcHalf_lt (s : Nat) (h : s < 4294967296) : crcHalf s < 4294967296 := xor_lt32 (by omega) (nib_lt _)
theorem crcStep_lt (s : Nat) (c : UInt8) (h : s < 4294967296) : crcStep s c < 4294967296 :=
  crcHalf_lt _ (crcHalf_lt _ (xor_lt32 h (by have := c.toNat_lt; omega)))
theorem crcGo_lt (l : Bytes) : crcGo l < 4294967296 := by
  unfold crcGo
  suffices ∀ (l : Bytes) s, s < 4294967296 → l.foldl crcStep s < 4294967296 from this l _ (by decide)
  intro l
  induction l with
  | nil => exact fun s h => h
  | cons c l ih => exact fun s h => ih _ (crcStep_lt s c h)
theorem crcGo_snoc (l : Bytes) (c : UInt8) : crcGo (l ++ [c]) = crcStep (crcGo l) c := by simp [crcGo]
theorem take_succ (l : Bytes) (j : Nat) (h : j < l.length) : l.take (j + 1) = l.take j ++ [l[j]?.getD 0] := by
  rw [List.take_succ_eq_append_getElem h]; simp [List.getElem?_eq_getElem h]

theorem and15 (s : Nat) (h : s < 4294967296) : bits BinOp.and IntKind.u32 (s : Int) 15 = ((s % 16 : Nat) : Int) := by
  have := u32_and_nat s 15 h (by omega)
  rw [nat_mask4] at this
  exact_mod_cast this
theorem xor_half (s : Nat) (h : s < 4294967296) : bits BinOp.xor IntKind.u32 ((s : Int) / 16) (nib (s % 16) : Int) = ((crcHalf s : Nat) : Int) := by
  have := u32_xor_nat (s / 16) (nib (s % 16)) (by omega) (nib_lt _)
  exact_mod_cast this
theorem xor_byte (s : Nat) (c : UInt8) (h : s < 4294967296) : bits BinOp.xor IntKind.u32 (s : Int) ((c.toNat : Int) % 4294967296) = ((s ^^^ c.toNat : Nat) : Int) := by
  have hc := c.toNat_lt
  rw [show (c.toNat : Int) % 4294967296 = c.toNat from by omega]
  exact u32_xor_nat s c.toNat h (by omega)

theorem nat_not32 (s : Nat) (h : s < 4294967296) : s ^^^ 4294967295 = 4294967295 - s := by
  have e : (BitVec.ofNat 32 s ^^^ 4294967295#32).toNat = (~~~ (BitVec.ofNat 32 s)).toNat := by
    congr 1
    exact BitVec.xor_allOnes
  simp only [BitVec.toNat_xor, BitVec.toNat_not, BitVec.toNat_ofNat] at e
  rw [Nat.mod_eq_of_lt (by omega)] at e
  simpa using e

set_option maxHeartbeats 400000 in
theorem Sum_any (A : Option Addr) (c : Nat) (l : Bytes) (w : World) (hn : l.length ≤ maxLen) (hl : RdB w A l) (hE : EnvN w) :
    Calls Tryz.prog 240 #[.slice A l.length c] w fun e w' => e = .returned (.int .i64 (crc l)) ∧ w = w' := by
  unfold maxLen at hn
  go_enter Tryz.func240, Tryz.ntmps240
  go_wp2_with fail
  go_loop [3, 8] (fun s i => ∃ j : Nat, j ≤ l.length ∧ i = .int .i64 j ∧ s = .int .u32 (crcGo (l.take j))) (fun _ i => l.length - (intOf i).toNat)
  case atStart => exact ⟨0, Nat.zero_le _, rfl, rfl⟩
  case round =>
    obtain ⟨j, hj, rfl, rfl⟩ := hrel
    have hs := crcGo_lt (l.take j)
    by_cases hlt : j < l.length
    · rcases hl with rfl | ⟨b, o, rfl, hl⟩
      · simp at hlt
      have hc := hl j hlt
      have hst := crcGo_snoc (l.take j) (l[j]?.getD 0)
      rw [← take_succ l j hlt] at hst
      have HST := Lib.hid hst; clear hst hl
      generalize crcGo (l.take j) = s at *
      generalize hch : l[j]?.getD 0 = ch at *
      have HCH := Lib.hid hch; clear hch
      have g1 := xor_byte s ch hs
      have l1 : s ^^^ ch.toNat < 4294967296 := xor_lt32 hs (by have := ch.toNat_lt; omega)
      generalize hs1 : s ^^^ ch.toNat = s1 at *
      have HS1 := Lib.hid hs1; clear hs1
      have g2 := and15 s1 l1
      have g3 := xor_half s1 l1
      have c1 := hE (s1 % 16) (by omega)
      have l2 := crcHalf_lt s1 l1
      generalize hs2 : crcHalf s1 = s2 at *
      have HS2 := Lib.hid hs2; clear hs2
      have g4 := and15 s2 l2
      have g5 := xor_half s2 l2
      have c2 := hE (s2 % 16) (by omega)
      go_wp2
      refine ⟨⟨j + 1, by omega, by go_num, ?_⟩, by simp [intOf]; omega⟩
      rw [HST.out]
      unfold crcStep
      rw [HS1.out, HS2.out]
    · obtain rfl : j = l.length := by omega
      go_wp2
      go_ret
      refine ⟨?_, rfl⟩
      rw [List.take_length] at hs
      simp
      have hm : IntKind.u32.max = ((4294967295 : Nat) : Int) := by decide
      rw [hm, u32_xor_nat 4294967295 (crcGo l) (by omega) hs]
      have hx : 4294967295 ^^^ crcGo l = 4294967295 - crcGo l := by
        have := Nat.xor_comm 4294967295 (crcGo l)
        rw [this]
        exact nat_not32 _ hs
      rw [hx]
      unfold wrap64 crc; omega

/-- a sum as four bytes, the lowest first -/
def tailB (s : Nat) : Bytes := [UInt8.ofNat s, UInt8.ofNat (s / 256), UInt8.ofNat (s / 65536), UInt8.ofNat (s / 16777216)]
def tailV (s : Nat) : Value := .agg (bcs (tailB s)).toArray
theorem crc_lt (l : Bytes) : crc l < 4294967296 := by unfold crc; omega

set_option maxHeartbeats 400000 in
theorem tail_any (A : Option Addr) (c : Nat) (l : Bytes) (w : World) (hn : l.length ≤ maxLen) (hl : RdB w A l) (hE : EnvN w) :
    Calls Tryz.prog 184 #[.slice A l.length c] w fun e w' => e = .returned (tailV (crc l)) ∧ Below w.heap.size w w' := by
  have hs := crc_lt l
  go_enter Tryz.func184, Tryz.ntmps184
  go_wp2_with (go_at_call 240; refine (Sum_any _ _ _ _ hn (hl.below ?_) (hE.below ?_)).mono ?_; rotate_left 2; rintro e w' ⟨rfl, rfl⟩)
  · refine bodyPost_ret (v := tailV (crc l)) ?_ rfl ⟨rfl, ?_⟩
    · simp [results, Tryz.results184, go_sem]
      have h := crc_lt l
      generalize crc l = s at *
      simp only [tailV, tailB, bcs, bv, List.map_cons, List.map_nil, UInt8.toNat_ofNat']
      rw [show (s / 16777216 % 2 ^ 8) = s / 16777216 from by omega]
      rfl
    · exact ((Below.refl _ _).alloc (Nat.le_refl _) _)
  · exact ((Below.refl _ _).alloc (Nat.le_refl _) _)
  · exact ((Below.refl _ _).alloc (Nat.le_refl _) _)

end Go.Proofs.YtmbfenkmabdokaaGreatDoor
