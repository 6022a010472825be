/- Parts of the proof: Seal, Zero, Head, Open, Map. -/
import Derived.Lib.AppendZerosOnto
import Derived.Lib.SmallJoins
import Derived.Lib.QuietBelow
import Derived.Test.YtmbfenkmabdokaaGreatDoorR00
set_option linter.all false
namespace Go.Proofs.YtmbfenkmabdokaaGreatDoor
open Go.RowKit

theorem info_u8' : ∃ i, Tryz.prog.info? 5 = some i ∧ i.zero = some (.int .u8 0) ∧ i.size = 1 ∧ i.bytes = 1 := by
  have h := info_u8
  cases hi : Tryz.prog.info? 5 with
  | none => rw [hi] at h; cases h
  | some i => rw [hi] at h; simp at h; exact ⟨i, rfl, h.1, h.2.1, h.2.2⟩

set_option maxRecDepth 100000 in
set_option maxHeartbeats 400000 in
theorem Grow_nil (n : Nat) (w : World) (hn : n ≤ 140737488355328) :
    Calls Tryz.prog 183 #[.slice none 0 0, .int .i64 n] w fun e w' => (∃ v, e = .returned v ∧ OwB w' w.heap.size v []) ∧ Below w.heap.size w w' := by
  obtain ⟨i, hi, hz, hsz, hby⟩ := info_u8'
  by_cases h0 : 0 < n
  · have hap := fun ty => Lib.run_append_nil_zeros (P := Tryz.prog) w 26 3 ty 5 i (.int .u8 0) .i64 .i64 Tryz.underlying26 Tryz.underlying3 hi hz n h0 (by omega) (by omega) (by rw [hby]; omega)
    have hcap := grownCap_ge w n 0 5
    have hcm := grownCap_le_maxLen w n 0 5 (by unfold maxLen; omega)
    go_enter Tryz.func183, Tryz.ntmps183
    go_wp2_with (at_builtin; refine Lib.wpList_append_run _ rfl _ _ _ _ rfl _ _ rfl rfl _ _ (hap _) ?_)
    refine bodyPost_ret (v := .slice (some ⟨w.heap.size, 0, none⟩) 0 (grownCap w n 0 5)) (by simp [results, Tryz.results183, go_sem]) rfl ⟨⟨_, rfl, ?_⟩, ?_⟩
    · refine ⟨by simp [bcs], .inr ⟨_, _, _, rfl, Nat.le_refl _, heap_alloc_new w.drew _, Nat.zero_le _, hcm, ?_, by simp [bcs]⟩⟩
      simp [Builtin.zeroCells]; omega
    · exact ((Below.refl _ _).alloc (Nat.le_refl _) _).drew
  · obtain rfl : n = 0 := by omega
    go_enter Tryz.func183, Tryz.ntmps183
    go_wp2
    refine bodyPost_ret (v := .slice none 0 0) (by simp [results, Tryz.results183, go_sem]) rfl ⟨⟨_, rfl, World.ownsRow_nil _ _ _ _⟩, Below.refl _ _⟩

/-- rows of bytes, as the elements of a row -/
def RdRows (w : World) (sb so : Nat) (ls : List Bytes) : Prop :=
  ∀ i, i < ls.length → ∃ A c, w.cell? ⟨sb, so + i, none⟩ = some (.slice A (ls[i]?.getD []).length c) ∧ RdB w A (ls[i]?.getD [])

theorem RdRows.below {w w' : World} {sb so : Nat} {ls : List Bytes} (h : RdRows w sb so ls) (k : Below w.heap.size w w') : RdRows w' sb so ls := fun i hi => by
  obtain ⟨A, c, h1, h2⟩ := h i hi
  exact ⟨A, c, by rw [k.cell (p := ⟨sb, so + i, none⟩) (lt_of_cell h1)]; exact h1, h2.below k⟩

/-- how many bytes there are in all (a plain name: the walk lays a sum open) -/
def flen (ls : List Bytes) : Nat := ls.flatten.length
theorem flat_take (ls : List Bytes) (j : Nat) (h : j < ls.length) : (ls.take (j + 1)).flatten = (ls.take j).flatten ++ ls[j]?.getD [] := by
  rw [List.take_succ_eq_append_getElem h, List.flatten_append]; simp [List.getElem?_eq_getElem h]
theorem flen_take (ls : List Bytes) (j : Nat) (h : j < ls.length) : flen (ls.take (j + 1)) = flen (ls.take j) + (ls[j]?.getD []).length := by
  unfold flen; rw [flat_take ls j h, List.length_append]
theorem flen_take_le (ls : List Bytes) (j : Nat) : flen (ls.take j) ≤ flen ls := by
  unfold flen
  conv => rhs; rw [← List.take_append_drop j ls, List.flatten_append, List.length_append]
  omega

set_option maxRecDepth 100000 in
set_option maxHeartbeats 400000 in
theorem Concat_any (sb so c : Nat) (ls : List Bytes) (w : World) (hn : ls.length ≤ maxLen) (hs : flen ls ≤ 140737488355328) (hl : RdRows w sb so ls) :
    Calls Tryz.prog 135 #[.slice (some ⟨sb, so, none⟩) ls.length c] w fun e w' => (∃ v, e = .returned v ∧ OwB w' w.heap.size v ls.flatten) ∧ Below w.heap.size w w' := by
  unfold maxLen at hn
  obtain ⟨i8, hi8, hz8, hsz8, hby8⟩ := info_u8'
  go_enter Tryz.func135, Tryz.ntmps135
  go_wp2_with fail
  go_loop [3, 11] (fun s i => ∃ j : Nat, j ≤ ls.length ∧ i = .int .i64 j ∧ s = .int .i64 (flen (ls.take j))) (fun _ i => ls.length - (intOf i).toNat)
  case atStart => exact ⟨0, Nat.zero_le _, rfl, rfl⟩
  case round =>
    obtain ⟨j, hj, rfl, rfl⟩ := hrel
    by_cases hlt : j < ls.length
    · obtain ⟨A, cc, hc, _⟩ := hl j hlt
      have h1 := flen_take_le ls j
      have h2 := flen_take_le ls (j + 1)
      have h3 := flen_take ls j hlt
      have H3 := Lib.hid h3
      rw [h3] at h2
      clear h3 hl
      generalize flen (ls.take j) = s0 at *
      generalize (ls[j]?.getD []).length = s1 at *
      go_wp2
      refine ⟨⟨j + 1, by omega, by go_num, ?_⟩, by simp [intOf]; omega⟩
      rw [H3.out]; go_num
    · obtain rfl : j = ls.length := by omega
      rw [List.take_length]
      go_wp2_with (go_at_call 183; refine (Grow_nil _ _ hs).mono ?_; rintro e w1 ⟨⟨v, rfl, hv⟩, hb⟩)
      have hsz1 := hb.size
      go_loopw [6, 27] (fun u i wr => ∃ j : Nat, j ≤ ls.length ∧ i = .int .i64 j ∧ OwB wr w.heap.size u (ls.take j).flatten ∧ Below w.heap.size w wr) (fun _ i _ => ls.length - (intOf i).toNat)
      case atStart => exact ⟨0, Nat.zero_le _, rfl, hv, hb⟩
      case round =>
        obtain ⟨j, hj, rfl, hown, hbw⟩ := hrel
        by_cases hlt : j < ls.length
        · obtain ⟨A, cc, hc, hr⟩ := (hl.below hbw) j hlt
          have hsrc := hr.src cc
          have h1 := flen_take_le ls (j + 1)
          have h3 := flen_take ls j hlt
          have hf := flat_take ls j hlt
          have HF := Lib.hid hf
          rw [h3] at h1
          have hL : flen (ls.take j) = (ls.take j).flatten.length := rfl
          generalize ls[j]?.getD [] = lj at *
          rw [hL] at h1
          clear hL
          generalize (ls.take j).flatten = L at *
          have H1 := Lib.hid h1
          have Hown := Lib.hid hown
          have Hsz := Lib.hid hbw.size
          have Hl := Lib.hid hl
          clear h3 hf hown h1 hl
          go_wp2_with (at_builtin; refine wpList_append_src _ rfl _ _ _ _ rfl w.heap.size 5 i8 (.int .u8 0) 1 1 Tryz.underlying26 hi8 hz8 hsz8 hby8 rfl _ _ _ _ rfl rfl Hown.out _ _ hsrc ?_ ?_ ?_ ?_)
          · have := H1.out; unfold maxLen; omega
          · have := H1.out; omega
          · exact Hsz.out
          · intro v' w' hown' hg
            have hb' := OwB.grown Hown.out hg hbw Hsz.out rfl
            have hown' := Lib.hid (OwB.of_app hown' rfl)
            rw [← HF.out] at hown'
            clear hg hsrc hr hc
            go_wp2
            go_roundw
            case rel => exact ⟨j + 1, by omega, by go_num, hown'.out, hb'⟩
            case measure => simp [intOf]; omega
        · obtain rfl : j = ls.length := by omega
          rw [List.take_length] at hown
          go_wp2
          go_ret
          exact ⟨⟨_, rfl, hown⟩, hbw⟩

theorem Clip_any (A : Option Addr) (n c : Nat) (w : World) (hn : n ≤ c) (hc : c ≤ maxLen) :
    Calls Tryz.prog 185 #[.slice A n c] w fun e w' => e = .returned (.slice A n n) ∧ w = w' := by
  unfold maxLen at hc
  go_enter Tryz.func185, Tryz.ntmps185
  go_wp2
  go_ret
  refine ⟨?_, rfl⟩
  simp

/-- Bytes in memory of the call's own, to be read. -/
def FrB (w : World) (B : Nat) (v : Value) (l : Bytes) : Prop :=
  ∃ A c, v = .slice A l.length c ∧ l.length ≤ c ∧ c ≤ maxLen ∧ RdB w A l ∧ (∀ a, A = some a → B ≤ a.block ∧ a.block < w.heap.size)
theorem OwB.fr {w : World} {base : Nat} {v : Value} {l : Bytes} (h : OwB w base v l) : FrB w base v l := h.rd
theorem FrB.below {w w' : World} {B : Nat} {v : Value} {l : Bytes} (h : FrB w B v l) (k : Below w.heap.size w w') : FrB w' B v l := by
  obtain ⟨A, c, h1, h2, h3, h4, h5⟩ := h
  exact ⟨A, c, h1, h2, h3, h4.below k, fun a ha => ⟨(h5 a ha).1, Nat.lt_of_lt_of_le (h5 a ha).2 k.size⟩⟩

theorem rd_new (w : World) (l : Bytes) (t : TypeId) : RdB (w.alloc (.cells (bcs l).toArray t)) (some ⟨w.heap.size, 0, none⟩) l := by
  refine .inr ⟨_, _, rfl, fun i hi => ?_⟩
  rw [World.cell?_alloc_at _ _ _ _ rfl, Nat.zero_add]
  simp [bcs, bv, List.getElem?_eq_getElem hi]

theorem tail_four (A : Option Addr) (c : Nat) (l : Bytes) (w : World) (hn : l.length ≤ maxLen) (hl : RdB w A l) (hE : EnvN w) :
    Calls Tryz.prog 184 #[.slice A l.length c] w fun e w' => (∃ t0 t1 t2 t3 : UInt8, tailB (crc l) = [t0, t1, t2, t3] ∧
      e = .returned (.agg #[.int .u8 (t0.toNat : Int), .int .u8 (t1.toNat : Int), .int .u8 (t2.toNat : Int), .int .u8 (t3.toNat : Int)])) ∧ Below w.heap.size w w' :=
  (tail_any A c l w hn hl hE).mono fun _ _ ⟨he, hb⟩ => ⟨⟨_, _, _, _, rfl, he⟩, hb⟩

theorem Concat_at (sb so n c : Nat) (ls : List Bytes) (w : World) (he : ls.length = n) (hn : n ≤ maxLen) (hs : flen ls ≤ 140737488355328) (hl : RdRows w sb so ls) :
    Calls Tryz.prog 135 #[.slice (some ⟨sb, so, none⟩) n c] w fun e w' => (∃ v, e = .returned v ∧ OwB w' w.heap.size v ls.flatten) ∧ Below w.heap.size w w' := by
  subst he; exact Concat_any sb so c ls w hn hs hl

/-- the block that an address lies in is one of bytes -/
def TyB (w : World) (A : Option Addr) : Prop := ∀ a, A = some a → ∃ cs fz, w.heap[a.block]? = some (.cells cs 5 fz)
theorem OwB.ty {w : World} {base n c : Nat} {A : Option Addr} {l : Bytes} (h : OwB w base (.slice A n c) l) : TyB w A := by
  rintro a rfl
  rcases h.2 with ⟨h1, _⟩ | ⟨g, cap, cur, h1, _, hh, _⟩
  · cases h1
  · cases h1; exact ⟨_, _, hh⟩
/-- A call hands back bytes in new memory; nothing that was there turns. -/
def RetB (w : World) (l : Bytes) (e : Ending) (w' : World) : Prop :=
  (∃ A c, e = .returned (.slice A l.length c) ∧ l.length ≤ c ∧ c ≤ maxLen ∧ RdB w' A l ∧ (∀ a, A = some a → w.heap.size ≤ a.block ∧ a.block < w'.heap.size) ∧ TyB w' A) ∧ Below w.heap.size w w'

theorem Concat_ret (sb so n c : Nat) (ls : List Bytes) (w : World) (L : Bytes) (he : ls.length = n) (hL : ls.flatten = L) (hn : n ≤ maxLen) (hs : flen ls ≤ 140737488355328) (hl : RdRows w sb so ls) :
    Calls Tryz.prog 135 #[.slice (some ⟨sb, so, none⟩) n c] w (RetB w L) :=
  (Concat_at sb so n c ls w he hn hs hl).mono fun e w' ⟨⟨v, h1, h2⟩, h3⟩ => by
    subst hL
    obtain ⟨A, c, rfl, h5, h6, h7, h8⟩ := h2.rd
    exact ⟨⟨A, c, h1, h5, h6, h7, h8, h2.ty⟩, h3⟩

set_option maxRecDepth 100000 in
set_option maxHeartbeats 400000 in
theorem Seal_any (A : Option Addr) (c : Nat) (l : Bytes) (w : World) (hn : l.length ≤ 140737488355000) (hl : RdB w A l) (hE : EnvN w) :
    Calls Tryz.prog 136 #[.slice A l.length c] w (RetB w (l ++ tailB (crc l))) := by
  have hn' : l.length ≤ maxLen := by unfold maxLen; omega
  go_enter Tryz.func136, Tryz.ntmps136
  go_wp2_with (go_at_call 184; refine (tail_four A c l _ hn' hl hE).mono ?_; rintro e w1 ⟨⟨t0, t1, t2, t3, ht, rfl⟩, hb1⟩; have HT := Lib.hid ht; clear ht)
  have hsz := hb1.size
  refine (Concat_ret (w1.heap.size + 1) 0 2 2 [l, [t0, t1, t2, t3]] _ (l ++ tailB (crc l)) rfl (by rw [HT.out]; simp) (by unfold maxLen; omega) (by simp [flen]; omega) ?_).mono ?_
  · intro i hi
    rcases i with _ | _ | i
    · refine ⟨A, c, ?_, ?_⟩
      · rw [World.cell?_alloc_at _ _ _ _ (by simp)]; rfl
      · exact (hl.below hb1).below (((Below.refl _ _).alloc (Nat.le_refl _) _).alloc (by simp) _)
    · refine ⟨some ⟨w1.heap.size, 0, none⟩, 4, ?_, ?_⟩
      · rw [World.cell?_alloc_at _ _ _ _ (by simp)]; rfl
      · have := rd_new w1 [t0, t1, t2, t3] 286
        exact this.below ((Below.refl _ _).alloc (Nat.le_refl _) _)
    · simp only [List.length_cons, List.length_nil] at hi; omega
  · rintro e w2 ⟨⟨A2, c2, rfl, hc2, hc2', hr2, ha2, hty2⟩, hb2⟩
    generalize l ++ tailB (crc l) = L at *
    go_wp2_with (go_at_call 185; refine (Clip_any _ _ _ _ hc2 hc2').mono ?_; rintro e w3 ⟨rfl, rfl⟩)
    go_ret
    have hB : Below w.heap.size w w2 := hb1.trans (((Below.refl _ _).alloc hsz _).alloc (by simp; omega) _ |>.trans (hb2.mono (by simp; omega)))
    exact ⟨⟨A2, _, rfl, Nat.le_refl _, Nat.le_trans hc2 hc2', hr2, fun a ha => ⟨by have := (ha2 a ha).1; simp at this; omega, (ha2 a ha).2⟩, hty2⟩, hB⟩
end Go.Proofs.YtmbfenkmabdokaaGreatDoor

namespace Go
open Go.RowKit
section
variable {P : Program} (w : World)

theorem zeroCells_one (z : Value) (n : Nat) : (Builtin.zeroCells #[z] n).toList = List.replicate n z := by
  simp only [Builtin.zeroCells]
  apply List.ext_getElem
  · simp
  · intro i h1 h2
    simp [Nat.mod_one]

theorem run_append_zeros_room (t tn ty e : TypeId) (i : TypeInfo) (z : Value) (k kn : IntKind) (ht : P.underlying t = some (.slice e)) (htn : P.underlying tn = some (.int kn)) (hi : P.info? e = some i) (hz : i.zero = some z) (hz1 : z.cells = #[z]) (ho : z.oneCell' = true)
    (hs1 : i.size = 1) (hb1 : i.bytes = 1) (g sLen sCap : Nat) (cur : Array Value) (hg : w.heap[g]? = some (.cells cur e (0, 0))) (n : Nat) (h0 : 0 < n) (hn : n ≤ 140737488355328)
    (hroom : sLen + n ≤ sCap) (hfit : sLen + n ≤ cur.size) :
    (Builtin.append_ #[t, tn] ty #[.slice (some ⟨g, 0, none⟩) sLen sCap, .int k n]).run P w =
      .ok (.slice (some ⟨g, 0, none⟩) (sLen + n) sCap) (w.setRow g (cur.toList.take sLen ++ List.replicate n z ++ cur.toList.drop (sLen + n)).toArray) := by
  have hw : IntKind.i64.wrap (n : Int) = n := by rw [IntKind.wrap_i64]; omega
  have hneg : ¬ ((n : Int) < 0) := by omega
  have hns : n ≠ 0 := by omega
  have h48 : ¬ (281474976710656 < (n : Int)) := by omega
  have hst := run_storeCells_at P g sLen e (List.replicate n z) 0 cur w hg (by simpa using hfit) (by intro v hv; rw [List.mem_replicate] at hv; rw [hv.2]; exact ho)
  simp only [Nat.add_zero, List.length_replicate] at hst
  have hzc := zeroCells_one z n
  simp [Builtin.append_, run_underlying ht, run_underlying htn, sizeOf, typeInfo, zeroValue, hi, hz, hs1, hb1, asInt, asIntOf, hw, hneg, hns, h48, hroom, hz1, Addr.add_lit]
  rw [hzc, hst]
  simp
end
end Go

namespace Go.Proofs.YtmbfenkmabdokaaGreatDoor
open Go.RowKit

theorem zeroCells_u8 (n : Nat) : (Builtin.zeroCells (Value.int .u8 0).cells n).toList = bcs (List.replicate n 0) := by
  show (Builtin.zeroCells #[Value.int .u8 0] n).toList = _
  rw [zeroCells_one]; unfold bcs; rw [List.map_replicate]; rfl

theorem zeros_grown (w : World) (base old n : Nat) (l : Bytes) (hl : l.length + n ≤ 140737488355328) (hbase : base ≤ w.heap.size) (arr : Array Value) (row : Option Nat)
    (harr : arr.toList = bcs l ++ bcs (List.replicate n 0) ++ bcs (List.replicate (grownCap w (l.length + n) old 5 - (l.length + n)) 0)) :
    OwB (w.drew.alloc (.cells arr 5)) base (.slice (some ⟨w.heap.size, 0, none⟩) (l.length + n) (grownCap w (l.length + n) old 5)) (l ++ List.replicate n 0) ∧ w.grownBy (w.drew.alloc (.cells arr 5)) row := by
  have hge := grownCap_ge w (l.length + n) old 5
  have hcm := grownCap_le_maxLen w (l.length + n) old 5 (by unfold maxLen; omega)
  have hlen : (l ++ List.replicate n (0 : UInt8)).length = l.length + n := by rw [List.length_append, List.length_replicate]
  refine ⟨⟨by rw [bcs_length, Nat.mul_one], .inr ⟨_, _, _, by rw [hlen], hbase, heap_alloc_new w.drew _, by rw [hlen]; exact hge, hcm, ?_, ?_⟩⟩, ⟨rfl, rfl, rfl, by simp, fun k hk _ => Below.heap_alloc w.drew _ k hk⟩⟩
  · rw [← Array.length_toList, harr]
    simp only [List.length_append, bcs_length, List.length_replicate]
    omega
  · rw [harr, hlen, ← bcs_append, Nat.mul_one, ← hlen, ← bcs_length]
    exact List.take_left

/-- zeros behind a row of bytes of the call's own -/
theorem run_app_zeros (w : World) (base n : Nat) (ty : TypeId) (v : Value) (l : Bytes) (hown : OwB w base v l) (hn : 0 < n) (hl : l.length + n ≤ 140737488355328) (hbase : base ≤ w.heap.size) :
    ∃ v' w', (Builtin.append_ #[26, 3] ty #[v, .int .i64 n]).run Tryz.prog w = .ok v' w' ∧ OwB w' base v' (l ++ List.replicate n 0) ∧ w.grownBy w' v.ownBlock := by
  obtain ⟨i, hi, hz, hsz, hby⟩ := info_u8'
  have hlen : (l ++ List.replicate n (0 : UInt8)).length = l.length + n := by rw [List.length_append, List.length_replicate]
  rcases hown.2 with ⟨rfl, h0⟩ | ⟨g, cap, cur, rfl, hbg, hg, hnc, hcm, hcs, htake⟩
  · have hr := Lib.run_append_grow_zeros (P := Tryz.prog) w 26 3 ty 5 i (.int .u8 0) .i64 .i64 Tryz.underlying26 Tryz.underlying3 hi hz none 0 0 [] (by simp [Builtin.firstCells]) n hn (by omega) (by omega) (by omega) (by rw [hby]; omega) (by rw [hby]; exact growslice_fits (by omega) (by omega))
    obtain rfl : l = [] := List.eq_nil_of_length_eq_zero h0
    obtain ⟨h1, h2⟩ := zeros_grown w base 0 n [] hl hbase (row := Value.ownBlock (.slice none 0 0)) (arr := ((#[] : Array Value) ++ Builtin.zeroCells (Value.int .u8 0).cells n ++ Builtin.zeroCells (Value.int .u8 0).cells (grownCap w (0 + n) 0 5 - (0 + n)))) (by
      rw [Array.toList_append, Array.toList_append, zeroCells_u8, zeroCells_u8]; rfl)
    exact ⟨_, _, hr, h1, h2⟩
  · by_cases hroom : l.length + n ≤ cap
    · have hr := run_append_zeros_room (P := Tryz.prog) w 26 3 ty 5 i (.int .u8 0) .i64 .i64 Tryz.underlying26 Tryz.underlying3 hi hz rfl rfl hsz hby g l.length cap cur hg n hn (by omega) hroom (by omega)
      refine ⟨_, _, hr, ?_, ⟨rfl, rfl, rfl, by simp, fun k _ hk => setRow_other w g k _ (fun e => hk (by simp [Value.ownBlock, e]))⟩⟩
      have hc3 : cap ≤ maxLen := hcm
      refine ⟨by rw [bcs_length, Nat.mul_one], .inr ⟨g, cap, _, by rw [hlen], hbg, setRow_heap w g cur _ _ _ hg, by rw [hlen]; exact hroom, hc3, ?_, ?_⟩⟩
      · simp only [List.size_toArray, List.length_append, List.length_take, List.length_drop, Array.length_toList, List.length_replicate]
        omega
      · rw [Nat.mul_one] at htake
        have hc : bcs l ++ List.replicate n (.int .u8 0) = bcs (l ++ List.replicate n 0) := by
          have hcr : bcs (List.replicate n (0 : UInt8)) = List.replicate n (.int .u8 0) := by unfold bcs; rw [List.map_replicate]; rfl
          rw [bcs_append, hcr]
        rw [htake, hc, Nat.mul_one, ← bcs_length (l ++ List.replicate n 0)]
        exact List.take_left
    · have holds : ∀ j u, (bcs l)[j]? = some u → w.drew.cell? ((⟨g, 0, none⟩ : Addr).add j) = some u := World.ownsRow.cells hown (g := g) rfl
      have hr := Lib.run_append_grow_zeros (P := Tryz.prog) w 26 3 ty 5 i (.int .u8 0) .i64 .i64 Tryz.underlying26 Tryz.underlying3 hi hz (some ⟨g, 0, none⟩) l.length cap (bcs l)
        (by rw [hsz]; exact run_firstCells_some w.drew 1 l.length ⟨g, 0, none⟩ l.length cap (bcs l) (by rw [bcs_length, Nat.mul_one]) holds) n hn (by omega) (by omega) (by omega) (by rw [hby]; omega) (by rw [hby]; exact growslice_fits (by omega) (by omega))
      obtain ⟨h1, h2⟩ := zeros_grown w base cap n l hl hbase (row := Value.ownBlock (.slice (some ⟨g, 0, none⟩) l.length cap)) (arr := ((bcs l).toArray ++ Builtin.zeroCells (Value.int .u8 0).cells n ++ Builtin.zeroCells (Value.int .u8 0).cells (grownCap w (l.length + n) cap 5 - (l.length + n)))) (by
        rw [Array.toList_append, Array.toList_append, zeroCells_u8, zeroCells_u8])
      exact ⟨_, _, hr, h1, h2⟩
end Go.Proofs.YtmbfenkmabdokaaGreatDoor

namespace Go.Proofs.YtmbfenkmabdokaaGreatDoor
open Go.RowKit

theorem Number_ret (n size : Nat) (w : World) (h1 : 1 ≤ size) (h2 : size ≤ 8) (hn : n < 256 ^ size) (hn2 : n ≤ maxLen) :
    Calls Tryz.prog 95 #[.int .i64 n, .int .i64 size] w fun e w' =>
      (∃ A, e = .returned (.tuple #[.slice A size size, .int .i64 0]) ∧ RdB w' A (numB n size)) ∧ Below w.heap.size w w' :=
  (Number_ok n size w h1 h2 hn hn2).mono fun e w' ⟨he, hw⟩ => by
    subst hw
    exact ⟨⟨_, he, rd_new w _ _⟩, (Below.refl _ _).alloc (Nat.le_refl _) _⟩

theorem OwB.le {w : World} {b b' : Nat} {v : Value} {l : Bytes} (h : OwB w b v l) (hb : b' ≤ b) : OwB w b' v l :=
  ⟨h.1, h.2.elim Or.inl (fun ⟨g, cap, cur, hv, hg, r⟩ => Or.inr ⟨g, cap, cur, hv, Nat.le_trans hb hg, r⟩)⟩

def blot : Bytes := [66, 76, 79, 84]
def headP (v r : Nat) : Bytes := [blot, numB v 8, numB r 4].flatten
theorem headP_length (v r : Nat) : (headP v r).length = 16 := by simp [headP, blot, numB_length]
def headB (v r : Nat) : Bytes := headP v r ++ List.replicate 492 0
theorem headB_length (v r : Nat) : (headB v r).length = 508 := by rw [headB, List.length_append, headP_length, List.length_replicate]
/-- a head's sector, of a version and a root + 1 -/
def secB (v r : Nat) : Bytes := headB v r ++ tailB (crc (headB v r))
theorem secB_length (v r : Nat) : (secB v r).length = 512 := by rw [secB, List.length_append, headB_length]; rfl

set_option maxRecDepth 100000 in
set_option maxHeartbeats 400000 in
theorem head_any (v r : Nat) (w : World) (hv : v ≤ maxLen) (hr : r < 256 ^ 4) (hE : EnvN w) :
    Calls Tryz.prog 84 #[.int .i64 v, .int .i64 ((r : Int) - 1)] w (RetB w (secB v r)) := by
  have hv8 : v < 256 ^ 8 := by unfold maxLen at hv; exact Nat.lt_of_le_of_lt hv (by decide)
  have hrm : r ≤ maxLen := by unfold maxLen; omega
  have hr4 : r < 4294967296 := hr
  have c1 : ∀ w, Calls Tryz.prog 95 #[.int .i64 v, .int .i64 8] w fun e w' => (∃ A, e = .returned (.tuple #[.slice A 8 8, .int .i64 0]) ∧ RdB w' A (numB v 8)) ∧ Below w.heap.size w w' := fun w => Number_ret v 8 w (by decide) (by decide) hv8 hv
  have c2 : ∀ w, Calls Tryz.prog 95 #[.int .i64 r, .int .i64 4] w fun e w' => (∃ A, e = .returned (.tuple #[.slice A 4 4, .int .i64 0]) ∧ RdB w' A (numB r 4)) ∧ Below w.heap.size w w' := fun w => Number_ret r 4 w (by decide) (by decide) hr hrm
  clear hv8 hr
  unfold maxLen at hv
  have kc := fun (w : World) (C : Array Value) (n c : Nat) => Lib.run_convert_bytes_const (P := Tryz.prog) w 26 5 C n c Tryz.underlying26 Tryz.underlying5
  go_enter Tryz.func84, Tryz.ntmps84
  go_wp2_with (go_at_call 95; with_reducible refine (c1 _).mono ?_; rintro e w1 ⟨⟨A1, rfl, h1⟩, hb1⟩)
  have hsz1 := hb1.size
  go_wp2_with (go_at_call 95; with_reducible refine (c2 _).mono ?_; rintro e w2 ⟨⟨A2, rfl, h2⟩, hb2⟩)
  have hsz2 := hb2.size
  go_wp2_with fail
  refine (Concat_at (w2.heap.size + 1) 0 3 3 [blot, numB v 8, numB r 4] _ rfl (by unfold maxLen; omega) (by show (headP v r).length ≤ _; rw [headP_length]; omega) ?_).mono ?_
  · intro i hi
    rcases i with _ | _ | _ | i
    · refine ⟨some ⟨w2.heap.size, 0, none⟩, 4, ?_, ?_⟩
      · rw [World.cell?_alloc_at _ _ _ _ (by simp)]; rfl
      · refine RdB.below (w := w2.alloc (.cells (bcs blot).toArray 5 (4, 5))) (.inr ⟨_, _, rfl, fun i hi => ?_⟩) ((Below.refl _ _).alloc (Nat.le_refl _) _)
        rw [Nat.zero_add, World.cell?_alloc_mark]
        simp [bcs, bv]
        exact ⟨_, List.getElem?_eq_getElem hi, by show _ = (((blot)[i]?.getD 0).toNat : Int); rw [List.getElem?_eq_getElem (show i < blot.length from hi)]; rfl⟩
    · refine ⟨A1, 8, ?_, ?_⟩
      · rw [World.cell?_alloc_at _ _ _ _ (by simp), List.getElem?_cons_succ, List.getElem?_cons_zero, Option.getD_some, numB_length]; rfl
      · exact ((h1.below hb2).below (((Below.refl _ _).alloc (Nat.le_refl _) _).alloc (by simp) _))
    · refine ⟨A2, 4, ?_, ?_⟩
      · rw [World.cell?_alloc_at _ _ _ _ (by simp), List.getElem?_cons_succ, List.getElem?_cons_succ, List.getElem?_cons_zero, Option.getD_some, numB_length]; rfl
      · exact (h2.below (((Below.refl _ _).alloc (Nat.le_refl _) _).alloc (by simp) _))
    · simp only [List.length_cons, List.length_nil] at hi; omega
  rintro e w3 ⟨⟨v3, rfl, h3⟩, hb3⟩
  have hB3 : Below w.heap.size w w3 := hb1.trans ((hb2.mono hsz1).trans (((((Below.refl w2.heap.size w2).alloc (Nat.le_refl _) _).alloc (by simp) _).mono (Nat.le_trans hsz1 hsz2)).trans (hb3.mono (by simp; omega))))
  have hsz3 := hb3.size
  have hH : [blot, numB v 8, numB r 4].flatten = headP v r := rfl
  rw [hH] at h3
  have hP : (headP v r).length = 16 := headP_length v r
  obtain ⟨v4, w4, hr4, h4, hg4⟩ := run_app_zeros w3 w.heap.size 492 26 v3 (headP v r) (OwB.le h3 (by simp; omega)) (by omega) (by omega) hB3.size
  obtain ⟨A3, c3, rfl, hc3, _⟩ := h3.rd
  rw [hP] at *
  have HR := Lib.hid hr4
  clear hr4
  go_wp2_with (at_builtin; refine Lib.wpList_append_run _ rfl _ _ _ _ rfl _ _ rfl rfl _ _ HR.out ?_)
  have hB4 : Below w.heap.size w w4 := OwB.grown (OwB.le h3 (by simp; omega)) hg4 hB3 hB3.size rfl
  have hsz4 := hB4.size
  obtain ⟨A4, c4, rfl, hc4, hm4, hR4, ha4⟩ := h4.rd
  have hL : headP v r ++ List.replicate 492 0 = headB v r := rfl
  rw [hL] at *
  have cS := Seal_any A4 c4 (headB v r) w4 (by rw [headB_length]; omega) hR4 (hE.below hB4)
  have hS : headB v r ++ tailB (crc (headB v r)) = secB v r := rfl
  rw [hS] at cS
  refine cS.mono ?_
  rintro e w5 ⟨⟨A5, c5, rfl, hc5, hm5, hR5, ha5, hty5⟩, hb5⟩
  go_wp2
  go_ret
  exact ⟨⟨A5, c5, rfl, hc5, hm5, hR5, fun a ha => ⟨by have := (ha5 a ha).1; omega, (ha5 a ha).2⟩, hty5⟩, hB4.trans (hb5.mono hsz4)⟩
end Go.Proofs.YtmbfenkmabdokaaGreatDoor

namespace Go.Proofs.YtmbfenkmabdokaaGreatDoor
open Go.RowKit Go.Sort

theorem drop4 (l : Bytes) (n : Nat) (h : l.length = n + 4) : ∃ d0 d1 d2 d3, l.drop n = [d0, d1, d2, d3] ∧ l[n]?.getD 0 = d0 ∧ l[n + 1]?.getD 0 = d1 ∧ l[n + 2]?.getD 0 = d2 ∧ l[n + 3]?.getD 0 = d3 := by
  have hl : (l.drop n).length = 4 := by simp; omega
  match hd : l.drop n, hl with
  | [d0, d1, d2, d3], _ =>
    refine ⟨d0, d1, d2, d3, rfl, ?_, ?_, ?_, ?_⟩ <;>
    · have h0 := congrArg (fun x => x[0]?) hd
      have h1 := congrArg (fun x => x[1]?) hd
      have h2 := congrArg (fun x => x[2]?) hd
      have h3 := congrArg (fun x => x[3]?) hd
      simp only [List.getElem?_drop] at h0 h1 h2 h3
      simp_all

theorem RdB.take {w : World} {A : Option Addr} {l : Bytes} (h : RdB w A l) (n : Nat) : RdB w A (l.take n) := by
  rcases h with rfl | ⟨b, o, rfl, h⟩
  · exact .inl (by simp)
  · refine .inr ⟨b, o, rfl, fun i hi => ?_⟩
    simp at hi
    rw [h i (by omega), List.getElem?_take_of_lt (by omega)]

/-- four bytes as arrays: alike? -/
theorem run_equal_arr4 (D : Nat) (w : World) (a b c d a' b' c' d' : Int) :
    (Op.equalIn (D + 1 + 1) 286 (.agg #[.int .u8 a, .int .u8 b, .int .u8 c, .int .u8 d]) (.agg #[.int .u8 a', .int .u8 b', .int .u8 c', .int .u8 d'])).run Tryz.prog w =
      .ok (a == a' && b == b' && c == c' && d == d') w := by
  have hs : ∀ w, (sizeOf 5).run Tryz.prog w = .ok 1 w := fun w => by kernel_rfl
  have hp : ∀ (w : World) (x0 x1 x2 x3 : Value), (part 5 #[x0, x1, x2, x3] 0).run Tryz.prog w = .ok x0 w ∧ (part 5 #[x0, x1, x2, x3] 1).run Tryz.prog w = .ok x1 w ∧ (part 5 #[x0, x1, x2, x3] 2).run Tryz.prog w = .ok x2 w ∧ (part 5 #[x0, x1, x2, x3] 3).run Tryz.prog w = .ok x3 w := fun w x0 x1 x2 x3 => by
    refine ⟨?_, ?_, ?_, ?_⟩ <;> kernel_rfl
  rw [Op.equalIn]
  simp only [Sem.run_bind, run_underlying Tryz.underlying286, Result.andThen_ok, hs]
  rw [Std.Legacy.Range.forIn_eq_forIn_range']
  simp [List.range', hp, Sem.run_bind, run_equalIn_int _ D 5 .u8 .u8 _ _ Tryz.underlying5]
  cases h1 : (a == a') <;> cases h2 : (b == b') <;> cases h3 : (c == c') <;> cases h4 : (d == d') <;> simp_all

theorem four_ne {t0 t1 t2 t3 d0 d1 d2 d3 : UInt8} (h : [t0, t1, t2, t3] ≠ [d0, d1, d2, d3]) :
    ((t0.toNat : Int) == (d0.toNat : Int) && (t1.toNat : Int) == (d1.toNat : Int) && (t2.toNat : Int) == (d2.toNat : Int) && (t3.toNat : Int) == (d3.toNat : Int)) = false := by
  rw [Bool.eq_false_iff]
  intro hh
  apply h
  simp only [Bool.and_eq_true, beq_iff_eq, Int.natCast_inj, UInt8.toNat_inj] at hh
  obtain ⟨⟨⟨h0, h1⟩, h2⟩, h3⟩ := hh
  rw [h0, h1, h2, h3]

set_option maxRecDepth 100000 in
set_option maxHeartbeats 400000 in
theorem sumOpen_no (b o c : Nat) (l : Bytes) (n : Nat) (w : World) (hn : n ≤ 140737488355000) (hlen : l.length = n + 4) (hc : l.length ≤ c) (_hcm : c ≤ maxLen)
    (hl : RdB w (some ⟨b, o, none⟩) l) (hE : EnvN w) (hne : tailB (crc (l.take n)) ≠ l.drop n) :
    Calls Tryz.prog 191 #[.slice (some ⟨b, o, none⟩) (n + 4) c] w fun e w' => e = .returned (.tuple #[.slice none 0 0, .bool false]) ∧ Below w.heap.size w w' := by
  obtain ⟨d0, d1, d2, d3, hd, e0, e1, e2, e3⟩ := drop4 l n hlen
  obtain ⟨t0, t1, t2, t3, ht⟩ : ∃ t0 t1 t2 t3 : UInt8, tailB (crc (l.take n)) = [t0, t1, t2, t3] := ⟨_, _, _, _, rfl⟩
  have htl : (l.take n).length = n := by simp; omega
  have cT : ∀ d os, Calls Tryz.prog 184 #[.slice (some ⟨b, o, none⟩) n c] (grow (redrawn w d) os) fun e w'' =>
      e = .returned (.agg #[.int .u8 (t0.toNat : Int), .int .u8 (t1.toNat : Int), .int .u8 (t2.toNat : Int), .int .u8 (t3.toNat : Int)]) ∧ ∃ p : Regrown, w'' = grow (redrawn w p.d) p.os := fun d os => by
    have h := tail_any (some ⟨b, o, none⟩) c (l.take n) (grow (redrawn w d) os) (by rw [htl]; unfold maxLen; omega) ((hl.take n).below (below_regrown w d os)) (hE.below (below_regrown w d os))
    rw [htl] at h
    refine Calls.regrown_of (h.mono fun e w' ⟨h1, h2⟩ => ⟨?_, h2⟩)
    rw [h1]; simp [tailV, ht, bcs, bv]
  obtain hl0 | ⟨_, _, hA, hl⟩ := hl
  · rw [hl0] at hlen; simp at hlen
  cases hA
  have k0 := cell_regrown (by have := hl n (by omega); rw [e0] at this; exact this)
  have k1 := cell_regrown (by have := hl (n + 1) (by omega); rw [e1, show o + (n + 1) = o + n + 1 from by omega] at this; exact this)
  have k2 := cell_regrown (by have := hl (n + 2) (by omega); rw [e2, show o + (n + 2) = o + n + 2 from by omega] at this; exact this)
  have k3 := cell_regrown (by have := hl (n + 3) (by omega); rw [e3, show o + (n + 3) = o + n + 3 from by omega] at this; exact this)
  rw [ht, hd] at hne
  have hq := fun w => run_equal_arr4 9998 w t0.toNat t1.toNat t2.toNat t3.toNat d0.toNat d1.toNat d2.toNat d3.toNat
  rw [four_ne hne] at hq
  clear e0 e1 e2 e3 hl hE hne ht hd htl
  have hc : n + 4 ≤ c := by omega
  clear hlen
  have x1 : (n : Int) ≤ (c : Int) := by omega
  have x2 : (n : Int) ≤ (n : Int) + 4 := by omega
  have x3 : ¬ c = n := by omega
  have x4 : n + 4 - n = 4 := by omega
  have ha4 := fun (w : World) (a : Option Addr) (c : Nat) => run_arrayAt (P := Tryz.prog) w 286 5 4 a 4 c Tryz.underlying286 (Nat.le_refl 4)
  go_enter Tryz.func191, Tryz.ntmps191
  go_wp2
  refine wp_region_quiet_below (by kernel_rfl) (by kernel_rfl) ?_
  repeat (quiet_step (exact cT _ _))
  refine wpQuiet_nil ?_
  intro _ hw'
  obtain ⟨⟨dq, osq⟩, hw''⟩ := hw'
  subst hw''
  go_wp2
  go_ret2
  exact ⟨rfl, below_regrown w dq osq⟩
end Go.Proofs.YtmbfenkmabdokaaGreatDoor

namespace Go.Mp
open Go.RowKit Go.Instr

/-- Keys that are compared at once: whole numbers, texts. -/
class Key (α : Type) where
  emb : α → Value
  kind : TypeDesc
  dec : DecidableEq α
  same : ∀ a b, sameNow kind (emb a) (emb b) = some (decide (a = b))
  bits : ∀ a, sameBits 10000 (emb a) (emb a) = true
  check : ∀ (P : Program) (t : TypeId) (w : World) (em : Bool) (a : α), P.underlying t = some kind → (checkKey em 10000 t (emb a)).run P w = .ok () w

instance (α : Type) [Key α] : DecidableEq α := Key.dec

theorem beq_bytes (a b : ByteArray) : (a == b) = decide (a = b) := by
  obtain ⟨x⟩ := a; obtain ⟨y⟩ := b
  show (x == y) = _
  rw [Bool.eq_iff_iff]
  simp

theorem run_checkKey_int {P : Program} {t : TypeId} {w : World} (em : Bool) (d : Nat) (k : IntKind) (n : Int) (h : P.underlying t = some (.int k)) : (checkKey em (d + 1) t (.int k n)).run P w = .ok () w := by
  rw [checkKey]; simp [run_underlying h]
theorem run_checkKey_str {P : Program} {t : TypeId} {w : World} (em : Bool) (d : Nat) (s : ByteArray) (h : P.underlying t = some .string) : (checkKey em (d + 1) t (.string s)).run P w = .ok () w := by
  rw [checkKey]; simp [run_underlying h]

instance keyInt : Key Int where
  emb n := .int .i64 n
  kind := .int .i64
  dec := inferInstance
  same a b := by simp [sameNow]; rfl
  bits a := by simp [sameBits]
  check P t w em a h := run_checkKey_int em 9999 .i64 a h

instance keyStr : Key ByteArray where
  emb s := .string s
  kind := .string
  dec := inferInstance
  same a b := by
    simp only [sameNow, beq_bytes]
  bits a := by
    simp only [sameBits, beq_bytes]; simp
  check P t w em a h := run_checkKey_str em 9999 a h

variable {α : Type} [Key α]

/-- the entries of a map, as pairs -/
def Rep (es : Array MapEntry) (L : List (α × Value)) : Prop := es.toList.map (fun e => (e.key, e.val)) = L.map (fun p => (Key.emb p.1, p.2))

/-- the place of a key -/
def findP (a : α) : List (α × Value) → Nat → Option (Nat × Value)
  | [], _ => none
  | (b, v) :: L, i => if a = b then some (i, v) else findP a L (i + 1)

theorem findNow_rep (a : α) : ∀ (es : List MapEntry) (L : List (α × Value)) (i : Nat), es.map (fun e => (e.key, e.val)) = L.map (fun p => (Key.emb p.1, p.2)) →
    findNow (Key.kind α) (Key.emb a) es i = some (findP a L i)
  | [], [], i, _ => rfl
  | [], _ :: _, _, h => by simp at h
  | _ :: _, [], _, h => by simp at h
  | e :: es, (b, v) :: L, i, h => by
    simp only [List.map_cons, List.cons.injEq, Prod.mk.injEq] at h
    obtain ⟨⟨hk, hv⟩, ht⟩ := h
    simp only [findNow, findP, hk, Key.same]
    by_cases e : a = b
    · simp [e, hv]
    · simp [e, findNow_rep a es L (i + 1) ht]

theorem findP_lookup (a : α) : ∀ (L : List (α × Value)) (i : Nat), (findP a L i).map (·.2) = (L.find? (fun p => decide (a = p.1))).map (·.2)
  | [], _ => rfl
  | (b, v) :: L, i => by
    simp only [findP, List.find?_cons]
    by_cases e : a = b
    · simp [e]
    · simp [e, findP_lookup a L (i + 1)]

/-- what a map holds for a key -/
def get (L : List (α × Value)) (a : α) : Option Value := (L.find? (fun p => decide (a = p.1))).map (·.2)

/-- Block m is a map of these entries. -/
structure At (w : World) (m : Nat) (L : List (α × Value)) (es : Array MapEntry) (clock : Nat) : Prop where
  block : w.heap[m]? = some (.map es clock)
  rep : Rep es L
  keys : (L.map (·.1)).Nodup
  born : (es.toList.map (·.born)).Nodup
  young : ∀ e ∈ es.toList, e.born < clock

/-- .. whatever its stamps. -/
def Is (w : World) (m : Nat) (L : List (α × Value)) : Prop := ∃ es clock, At w m L es clock

section
variable {P : Program} {w : World} {m : Nat} {L : List (α × Value)}

theorem run_findKey {t : TypeId} (ht : P.underlying t = some (Key.kind α)) {es : Array MapEntry} (h : Rep es L) (a : α) : (findKey t (Key.emb a) es.toList).run P w = .ok (findP a L 0) w := by
  simp [findKey, run_underlying ht, findNow_rep a es.toList L 0 h]

theorem run_getMap {es : Array MapEntry} {clock : Nat} (h : w.heap[m]? = some (.map es clock)) : (getObj m).run P w = .ok (.map es clock) w := by
  simp [getObj, Sem.run, h]

theorem run_lookup_ok (T tk te : TypeId) (hT : P.underlying T = some (.map tk te)) (hk : P.underlying tk = some (Key.kind α)) (h : Is w m L) (a : α) (z : Value) (hz : ∀ w, (zeroValue te).run P w = .ok z w) :
    (lookup T (.map (some m)) (Key.emb a) true).run P w = .ok (.tuple #[(get L a).getD z, .bool (get L a).isSome]) w := by
  obtain ⟨es, clock, h⟩ := h
  have h1 := findP_lookup a L 0
  have hc := Key.check P tk w es.isEmpty a hk
  have hf := run_findKey (P := P) (w := w) hk h.rep a
  simp only [lookup, Sem.run_bind, run_underlying hT, Result.andThen_ok, run_getMap h.block]
  cases hp : findP a L 0 with
  | none => rw [hp] at h1 hf; simp [hc, hf, get, ← h1, hz]
  | some p => rw [hp] at h1 hf; simp [hc, hf, get, ← h1]

theorem run_lookup (T tk te : TypeId) (hT : P.underlying T = some (.map tk te)) (hk : P.underlying tk = some (Key.kind α)) (h : Is w m L) (a : α) (z : Value) (hz : ∀ w, (zeroValue te).run P w = .ok z w) :
    (lookup T (.map (some m)) (Key.emb a) false).run P w = .ok ((get L a).getD z) w := by
  obtain ⟨es, clock, h⟩ := h
  have h1 := findP_lookup a L 0
  have hc := Key.check P tk w es.isEmpty a hk
  have hf := run_findKey (P := P) (w := w) hk h.rep a
  simp only [lookup, Sem.run_bind, run_underlying hT, Result.andThen_ok, run_getMap h.block]
  cases hp : findP a L 0 with
  | none => rw [hp] at h1 hf; simp [hc, hf, get, ← h1, hz]
  | some p => rw [hp] at h1 hf; simp [hc, hf, get, ← h1]

/-- the entries behind an update -/
def upd (L : List (α × Value)) (a : α) (v : Value) : List (α × Value) :=
  if (L.find? (fun p => decide (a = p.1))).isSome then L.map (fun p => if a = p.1 then (p.1, v) else p) else L ++ [(a, v)]

theorem findP_none (a : α) (L : List (α × Value)) : ∀ i, findP a L i = none ↔ ∀ p ∈ L, a ≠ p.1 := by
  induction L with
  | nil => simp [findP]
  | cons x L ih =>
    intro i
    obtain ⟨b, v⟩ := x
    simp only [findP]
    by_cases e : a = b
    · simp [e]
    · simp [e, ih (i + 1)]

theorem findP_some (a : α) : ∀ (L : List (α × Value)) (i j : Nat) (v : Value), findP a L i = some (j, v) → ∃ n, j = i + n ∧ n < L.length ∧ L[n]? = some (a, v) ∧ ∀ k, k < n → ∀ p, L[k]? = some p → a ≠ p.1
  | [], _, _, _, h => by simp [findP] at h
  | (b, u) :: L, i, j, v, h => by
    simp only [findP] at h
    by_cases e : a = b
    · rw [if_pos e] at h
      simp at h
      obtain ⟨rfl, rfl⟩ := h
      exact ⟨0, rfl, by simp, by simp [e], by simp⟩
    · rw [if_neg e] at h
      obtain ⟨n, h1, h2, h3, h4⟩ := findP_some a L (i + 1) j v h
      refine ⟨n + 1, by omega, by simpa using h2, by simpa using h3, ?_⟩
      intro k hk p hp
      rcases k with _ | k
      · simp at hp; subst hp; exact e
      · exact h4 k (by omega) p (by simpa using hp)

theorem find_isSome (a : α) (L : List (α × Value)) : (L.find? (fun p => decide (a = p.1))).isSome = (findP a L 0).isSome := by
  have := findP_lookup a L 0
  cases h1 : findP a L 0 <;> cases h2 : L.find? (fun p => decide (a = p.1)) <;> simp_all

theorem modify_rep {es : Array MapEntry} (h : Rep es L) (hn : (L.map (·.1)).Nodup) (a : α) (v old : Value) (n : Nat) (hp : findP a L 0 = some (n, old)) :
    Rep (es.modify n fun e => { e with key := Key.emb a, val := v }) (upd L a v) := by
  obtain ⟨n', h1, h2, h3, h4⟩ := findP_some a L 0 n old hp
  obtain rfl : n' = n := by omega
  have hs : (L.find? (fun p => decide (a = p.1))).isSome = true := by rw [find_isSome, hp]; rfl
  unfold Rep upd at *
  rw [if_pos hs, Array.toList_modify]
  have hlen : es.toList.length = L.length := by have := congrArg List.length h; simpa using this
  apply List.ext_getElem?
  intro i
  have hi := congrArg (fun (x : List (Value × Value)) => x[i]?) h
  simp only [List.getElem?_map, List.getElem?_modify] at hi ⊢
  by_cases e : n' = i
  · subst e
    simp only [h3, Option.map_some, Option.map_eq_some_iff] at hi ⊢
    obtain ⟨x, hx, _⟩ := hi
    simp [hx]
  · simp only [if_neg e]
    have hne : ∀ p, L[i]? = some p → a ≠ p.1 := by
      intro p hp' heq
      have hi1 : i < L.length := (List.getElem?_eq_some_iff.1 hp').1
      have e1 : (L.map (·.1))[i]? = some p.1 := by simp [hp']
      have e2 : (L.map (·.1))[n']? = some p.1 := by simp [h3, heq]
      exact e ((List.getElem?_inj (by simpa using h2) hn).1 (by rw [e1, e2]))
    simp only [Option.map_eq_map, Option.map_id', Option.map_map] at hi ⊢
    rw [hi]
    cases hL : L[i]? with
    | none => rfl
    | some p => simp [if_neg (hne p hL)]

theorem upd_keys (hn : (L.map (·.1)).Nodup) (a : α) (v : Value) : ((upd L a v).map (·.1)).Nodup := by
  unfold upd
  split
  · have : (L.map fun p => if a = p.1 then (p.1, v) else p).map (·.1) = L.map (·.1) := by
      rw [List.map_map]
      apply List.map_congr_left
      intro p _
      simp only [Function.comp]
      split <;> rfl
    rw [this]; exact hn
  · rename_i h
    rw [List.map_append, List.nodup_append]
    refine ⟨hn, by simp, ?_⟩
    intro x hx y hy
    simp at hy
    subst hy
    rintro rfl
    apply h
    obtain ⟨p, hp, rfl⟩ := List.mem_map.1 hx
    exact List.find?_isSome.2 ⟨p, hp, by simp⟩

/-- the world with another object in a block -/
def put (w : World) (m : Nat) (o : Obj) : World := { w with heap := w.heap.setIfInBounds m o }
theorem put_grown (w : World) (m : Nat) (o : Obj) : w.grownBy (put w m o) (some m) :=
  ⟨rfl, rfl, rfl, by simp [put], fun k _ hk => by simp only [put]; rw [Array.getElem?_setIfInBounds_ne]; intro e; exact hk (by rw [e])⟩
theorem put_size (w : World) (m : Nat) (o : Obj) : (put w m o).heap.size = w.heap.size := by simp [put]
theorem put_get {w : World} {m : Nat} {o o' : Obj} (h : w.heap[m]? = some o') : (put w m o).heap[m]? = some o := by
  have : m < w.heap.size := by
    rcases Nat.lt_or_ge m w.heap.size with h' | h'
    · exact h'
    · rw [Array.getElem?_eq_none h'] at h; cases h
  simp [put, this]
theorem run_setMap {es : Array MapEntry} {clock : Nat} (h : w.heap[m]? = some (.map es clock)) (o : Obj) : (setObj m o).run P w = .ok () (put w m o) := by
  simp [setObj, Sem.run, h, put]

theorem run_update (T tk te : TypeId) (hT : P.underlying T = some (.map tk te)) (hk : P.underlying tk = some (Key.kind α)) (h : Is w m L) (a : α) (v : Value) :
    ∃ o, (mapUpdate T (.map (some m)) (Key.emb a) v).run P w = .ok () (put w m o) ∧ Is (put w m o) m (upd L a v) := by
  obtain ⟨es, clock, h⟩ := h
  have hc := Key.check P tk w false a hk
  have hf := run_findKey (P := P) (w := w) hk h.rep a
  cases hp : findP a L 0 with
  | none =>
    rw [hp] at hf
    have hnf : ¬ (L.find? (fun p => decide (a = p.1))).isSome = true := by rw [find_isSome, hp]; simp
    refine ⟨.map (es.push { key := Key.emb a, val := v, born := clock }) (clock + 1), ?_, _, _, put_get h.block, ?_, upd_keys h.keys a v, ?_, ?_⟩
    · simp only [mapUpdate, Sem.run_bind, run_underlying hT, Result.andThen_ok, run_getMap h.block]
      simp [hc, hf, run_setMap h.block]
    · unfold Rep upd
      rw [if_neg hnf, Array.toList_push]
      have := h.rep
      unfold Rep at this
      simp [this]
    · rw [Array.toList_push, List.map_append, List.nodup_append]
      refine ⟨h.born, by simp, ?_⟩
      intro x hx y hy
      simp at hy
      subst hy
      obtain ⟨e, he, rfl⟩ := List.mem_map.1 hx
      exact Nat.ne_of_lt (h.young e he)
    · intro e he
      rw [Array.toList_push, List.mem_append] at he
      rcases he with he | he
      · have := h.young e he; omega
      · simp at he; subst he; simp
  | some x =>
    obtain ⟨n, old⟩ := x
    rw [hp] at hf
    obtain ⟨n', e1, hn, hL, _⟩ := findP_some a L 0 n old hp
    obtain rfl : n' = n := by omega
    have hg : es[n']?.map (·.key) = some (Key.emb a) := by
      have := congrArg (fun (x : List (Value × Value)) => x[n']?) h.rep
      simp only [List.getElem?_map, hL, Option.map_some, Option.map_eq_some_iff, Array.getElem?_toList] at this
      obtain ⟨y, hy, hz⟩ := this
      simp only [Prod.mk.injEq] at hz
      simp [hy, hz.1]
    have hst : ∀ w, (keyThatStays (Key.emb a) (Key.emb a)).run P w = .ok (Key.emb a) w := fun w => by simp [keyThatStays, Key.bits]
    refine ⟨.map (es.modify n' fun e => { e with key := Key.emb a, val := v }) clock, ?_, _, _, put_get h.block, modify_rep h.rep h.keys a v old n' hp, upd_keys h.keys a v, ?_, ?_⟩
    · simp only [mapUpdate, Sem.run_bind, run_underlying hT, Result.andThen_ok, run_getMap h.block]
      simp [hc, hf, hg, hst, run_setMap h.block]
    · have : (es.modify n' fun e => { e with key := Key.emb a, val := v }).toList.map (·.born) = es.toList.map (·.born) := by
        rw [Array.toList_modify]
        apply List.ext_getElem?
        intro i
        simp only [List.getElem?_map, List.getElem?_modify]
        cases es.toList[i]? with
        | none => rfl
        | some x => by_cases e : n' = i <;> simp [e]
      rw [this]; exact h.born
    · intro e he
      rw [Array.toList_modify] at he
      obtain ⟨i, hi⟩ := List.mem_iff_getElem?.1 he
      rw [List.getElem?_modify] at hi
      simp only [Option.map_eq_map, Option.map_eq_some_iff] at hi
      obtain ⟨x, hx, rfl⟩ := hi
      have := h.young x (List.mem_iff_getElem?.2 ⟨i, hx⟩)
      split <;> exact this

/-- the entries without a key -/
def del (L : List (α × Value)) (a : α) : List (α × Value) := L.filter (fun p => !decide (a = p.1))

theorem erase_del (a : α) : ∀ (L : List (α × Value)) (n : Nat) (v : Value), (L.map (·.1)).Nodup → L[n]? = some (a, v) → L.eraseIdx n = del L a
  | [], n, v, _, h => by simp at h
  | (b, u) :: L, 0, v, hn, h => by
    simp at h
    obtain ⟨rfl, rfl⟩ := h
    simp only [List.map_cons, List.nodup_cons, List.mem_map, not_exists, not_and] at hn
    unfold del
    rw [List.eraseIdx_cons_zero, List.filter_cons_of_neg (by simp)]
    symm
    rw [List.filter_eq_self]
    intro p hp
    simp only [Bool.not_eq_true', decide_eq_false_iff_not]
    exact fun e => hn.1 p hp e.symm
  | (b, u) :: L, n + 1, v, hn, h => by
    simp only [List.map_cons, List.nodup_cons, List.mem_map, not_exists, not_and] at hn
    have h' : L[n]? = some (a, v) := by simpa using h
    have hab : a ≠ b := fun e => hn.1 (a, v) (List.mem_iff_getElem?.2 ⟨n, h'⟩) e
    have ih := erase_del a L n v hn.2 h'
    unfold del at *
    rw [List.eraseIdx_cons_succ, List.filter_cons_of_pos (by simp [hab]), ih]

theorem map_eraseIdx' {β γ : Type} (f : β → γ) : ∀ (l : List β) (n : Nat), (l.eraseIdx n).map f = (l.map f).eraseIdx n
  | [], _ => rfl
  | _ :: _, 0 => rfl
  | x :: l, n + 1 => by simp [map_eraseIdx' f l n]

theorem del_none (a : α) (h : ∀ p ∈ L, a ≠ p.1) : del L a = L := by
  unfold del
  rw [List.filter_eq_self]
  intro p hp
  simp [h p hp]

theorem run_delete (T tk te ty : TypeId) (hT : P.underlying T = some (.map tk te)) (hk : P.underlying tk = some (Key.kind α)) (h : Is w m L) (a : α) (t2 : TypeId) :
    ∃ o, (Builtin.delete_ #[T, t2] ty #[.map (some m), Key.emb a]).run P w = .ok (.tuple #[]) (put w m o) ∧ Is (put w m o) m (del L a) := by
  obtain ⟨es, clock, h⟩ := h
  have hc := Key.check P tk w es.isEmpty a hk
  have hf := run_findKey (P := P) (w := w) hk h.rep a
  cases hp : findP a L 0 with
  | none =>
    rw [hp] at hf
    have hd : del L a = L := del_none a ((findP_none a L 0).1 hp)
    refine ⟨.map es clock, ?_, ?_⟩
    · simp [Builtin.delete_, run_underlying hT, run_getMap h.block, hc, hf, run_setMap h.block]
    · rw [hd]
      exact ⟨es, clock, put_get h.block, h.rep, h.keys, h.born, h.young⟩
  | some x =>
    obtain ⟨n, old⟩ := x
    rw [hp] at hf
    obtain ⟨n', e1, hn, hL, _⟩ := findP_some a L 0 n old hp
    obtain rfl : n' = n := by omega
    have hlen : es.size = L.length := by have := congrArg List.length h.rep; simpa using this
    refine ⟨.map (es.eraseIdxIfInBounds n') clock, ?_, ?_⟩
    · simp [Builtin.delete_, run_underlying hT, run_getMap h.block, hc, hf, run_setMap h.block]
    · have hE : (es.eraseIdxIfInBounds n').toList = es.toList.eraseIdx n' := by simp [Array.eraseIdxIfInBounds, hlen, hn]
      refine ⟨_, _, put_get h.block, ?_, ?_, ?_, ?_⟩
      · rw [← erase_del a L n' old h.keys hL]
        have := h.rep
        unfold Rep at this ⊢
        rw [hE, map_eraseIdx', map_eraseIdx', this]
      · exact (List.Sublist.map _ List.filter_sublist).nodup h.keys
      · rw [hE, map_eraseIdx']
        exact (List.eraseIdx_sublist _ _).nodup h.born
      · intro e he
        rw [hE] at he
        exact h.young e ((List.eraseIdx_sublist _ _).subset he)

theorem run_clear (T tk te ty : TypeId) (hT : P.underlying T = some (.map tk te)) (h : Is w m L) :
    ∃ o, (Builtin.clear_ #[T] ty #[.map (some m)]).run P w = .ok (.tuple #[]) (put w m o) ∧ Is (put w m o) m ([] : List (α × Value)) := by
  obtain ⟨es, clock, h⟩ := h
  refine ⟨.map #[] clock, ?_, #[], clock, put_get h.block, by simp [Rep], by simp, by simp, by simp⟩
  simp [Builtin.clear_, run_underlying hT, run_getMap h.block, run_setMap h.block]

theorem Is.new (w : World) : Is (w.alloc (.map #[] 0)) w.heap.size ([] : List (α × Value)) :=
  ⟨#[], 0, heap_alloc_new w _, by simp [Rep], by simp, by simp, by simp⟩

theorem Is.keep {w' : World} (h : Is w m L) (hb : w'.heap[m]? = w.heap[m]?) : Is w' m L := by
  obtain ⟨es, clock, h⟩ := h
  exact ⟨es, clock, by rw [hb]; exact h.block, h.rep, h.keys, h.born, h.young⟩

/-! ### ranging over a map that no round turns -/

/-- Block r ranges over the map of block m: the entries V have come, the entries R are still to come. -/
structure It (w : World) (r m : Nat) (es : Array MapEntry) (clock : Nat) (V R : List MapEntry) : Prop where
  map : w.heap[m]? = some (.map es clock)
  iter : ∃ seen : Array Nat, w.heap[r]? = some (.mapIter (some m) clock seen clock) ∧ seen.toList = V.map (·.born)
  perm : (V ++ R).Perm es.toList
  born : (es.toList.map (·.born)).Nodup
  young : ∀ e ∈ es.toList, e.born < clock

theorem run_range (T tk te : TypeId) (hT : P.underlying T = some (.map tk te)) {es : Array MapEntry} {clock : Nat} (h : At w m L es clock) :
    (range T (.map (some m))).run P w = .ok (.pointer (some ⟨w.heap.size, 0, none⟩)) (w.alloc (.mapIter (some m) clock #[] clock)) ∧ It (w.alloc (.mapIter (some m) clock #[] clock)) w.heap.size m es clock [] es.toList := by
  refine ⟨by simp [range, run_underlying hT, run_getMap h.block, newObj]; rfl, ?_, ⟨#[], heap_alloc_new w _, rfl⟩, by simp, h.born, h.young⟩
  rw [Below.heap_alloc w _ m]
  · exact h.block
  · rcases Nat.lt_or_ge m w.heap.size with h' | h'
    · exact h'
    · have := h.block; rw [Array.getElem?_eq_none h'] at this; cases this

theorem left_mem {es : Array MapEntry} {V R : List MapEntry} (hp : (V ++ R).Perm es.toList) (hb : (es.toList.map (·.born)).Nodup) {seen : Array Nat} (hs : seen.toList = V.map (·.born)) (e : MapEntry) :
    e ∈ es.toList.filter (fun e => !seen.contains e.born) ↔ e ∈ R := by
  rw [List.mem_filter]
  have hn : ((V ++ R).map (·.born)).Nodup := (hp.map _).nodup_iff.2 hb
  have hc : seen.contains e.born = true ↔ e.born ∈ V.map (·.born) := by rw [Array.contains_iff_mem, ← Array.mem_toList_iff, hs]
  rw [List.map_append, List.nodup_append] at hn
  constructor
  · rintro ⟨h1, h2⟩
    have h3 : ¬ e.born ∈ V.map (·.born) := fun hh => by rw [hc.2 hh] at h2; cases h2
    have h4 := hp.mem_iff.2 h1
    rcases List.mem_append.1 h4 with h5 | h5
    · exact absurd (List.mem_map_of_mem h5) h3
    · exact h5
  · intro h
    refine ⟨hp.mem_iff.1 (List.mem_append.2 (.inr h)), ?_⟩
    rw [Bool.not_eq_true', Bool.eq_false_iff]
    intro hh
    exact hn.2.2 _ (hc.1 hh) _ (List.mem_map_of_mem h) rfl

theorem run_next_done {r : Nat} {es : Array MapEntry} {clock : Nat} {V : List MapEntry} (h : It w r m es clock V []) (t : TypeId) :
    (next (.pointer (some ⟨r, 0, none⟩)) false t).run P w = .ok (.tuple #[.bool false]) w := by
  obtain ⟨seen, hr, hs⟩ := h.iter
  have hl : es.filter (fun e => !seen.contains e.born) = #[] := by
    apply Array.ext'
    rw [Array.toList_filter]
    apply List.eq_nil_iff_forall_not_mem.2
    intro e he
    simpa using (left_mem h.perm h.born hs e).1 he
  have hg1 : (getObj r).run P w = .ok (.mapIter (some m) clock seen clock) w := by simp [getObj, Sem.run, hr]
  have hg2 := run_getMap (P := P) h.map
  have hy : (!seen.isEmpty && !es.isEmpty && es.all (fun e => decide (e.born ≥ clock))) = false := by
    rw [Bool.eq_false_iff]
    intro hh
    simp only [Bool.and_eq_true, Bool.not_eq_true', Array.isEmpty_eq_false_iff, Array.all_eq_true_iff_forall_mem, decide_eq_true_eq] at hh
    obtain ⟨⟨_, h1⟩, h2⟩ := hh
    have : 0 < es.size := Array.size_pos_iff.2 h1
    have hm : es[0] ∈ es := Array.getElem_mem this
    have := h.young es[0] (by simp)
    have := h2 _ hm
    omega
  simp only [next, Sem.run_bind, hg1, Result.andThen_ok, hg2, hy, Bool.false_eq_true, if_false, hl]
  simp [choose, Sem.run, Question.forced]

theorem run_choose (q : Question) : ∃ w0, (choose q).run P w = .ok (if q.forced then 0 else q.cut (w.tape w.drawn q)) w0 ∧ (w0 = w ∨ w0 = w.drew) := by
  by_cases h : q.forced = true
  · exact ⟨w, by simp [choose, Sem.run, h], .inl rfl⟩
  · refine ⟨w.drew, ?_, .inr rfl⟩
    simp [choose, Sem.run, h]

theorem It.mem {r : Nat} {es : Array MapEntry} {clock : Nat} {V R : List MapEntry} (h : It w r m es clock V R) {e : MapEntry} (he : e ∈ R) : e ∈ es.toList :=
  h.perm.mem_iff.1 (List.mem_append.2 (.inr he))

theorem run_next_more {r : Nat} {es : Array MapEntry} {clock : Nat} {V R : List MapEntry} (h : It w r m es clock V R) (hR : R ≠ []) (t : TypeId) :
    ∃ e R' o w0, (next (.pointer (some ⟨r, 0, none⟩)) false t).run P w = .ok (.tuple #[.bool true, e.key, e.val]) (put w0 r o) ∧ (w0 = w ∨ w0 = w.drew) ∧
      It (put w0 r o) r m es clock (V ++ [e]) R' ∧ R.Perm (e :: R') := by
  obtain ⟨seen, hr, hs⟩ := h.iter
  have hg1 : (getObj r).run P w = .ok (.mapIter (some m) clock seen clock) w := by simp [getObj, Sem.run, hr]
  have hg2 := run_getMap (P := P) h.map
  have hmemL : ∀ e, e ∈ (es.filter (fun e => !seen.contains e.born)).toList ↔ e ∈ R := fun e => by rw [Array.toList_filter]; exact left_mem h.perm h.born hs e
  generalize hleft : es.filter (fun e => !seen.contains e.born) = left at hmemL
  have hyoung : ∀ e ∈ left, e.born < clock := fun e he => h.young e (h.mem ((hmemL e).1 (by simpa using he)))
  have hold : left.filter (fun x => decide (x.born < clock)) = left := by
    rw [Array.filter_eq_self]; intro e he; simpa using hyoung e he
  have hnew : left.filter (fun x => decide (x.born ≥ clock)) = #[] := by
    rw [Array.filter_eq_empty_iff]; intro e he; have := hyoung e he; simp; omega
  have hne : left ≠ #[] := by
    rintro rfl
    obtain ⟨e, he⟩ := List.exists_mem_of_ne_nil R hR
    simpa using (hmemL e).2 he
  have hem : left.isEmpty = false := by simpa using hne
  have hy : (!seen.isEmpty && !es.isEmpty && es.all (fun e => decide (e.born ≥ clock))) = false := by
    rw [Bool.eq_false_iff]
    intro hh
    simp only [Bool.and_eq_true, Bool.not_eq_true', Array.isEmpty_eq_false_iff, Array.all_eq_true_iff_forall_mem, decide_eq_true_eq] at hh
    obtain ⟨⟨_, h1⟩, h2⟩ := hh
    have : 0 < es.size := Array.size_pos_iff.2 h1
    have hm : es[0] ∈ es := Array.getElem_mem this
    have := h.young es[0] (by simp)
    have := h2 _ hm
    omega
  have hsz : 0 < left.size := Array.size_pos_iff.2 hne
  obtain ⟨w0, hch, hw0⟩ := run_choose (P := P) (w := w) (.mapNext left.size)
  obtain ⟨c, hc, hcl⟩ : ∃ c, c = (if (Question.mapNext left.size).forced = true then 0 else (Question.mapNext left.size).cut (w.tape w.drawn (.mapNext left.size))) ∧ c < left.size := by
    refine ⟨_, rfl, ?_⟩
    split
    · exact hsz
    · exact Nat.mod_lt _ hsz
  rw [← hc] at hch
  have hr0 : w0.heap[r]? = some (.mapIter (some m) clock seen clock) := by rcases hw0 with rfl | rfl <;> exact hr
  have hm0 : w0.heap[m]? = some (.map es clock) := by rcases hw0 with rfl | rfl <;> exact h.map
  have hset : (setObj r (.mapIter (some m) clock (seen.push left[c].born) clock)).run P w0 = .ok () (put w0 r (.mapIter (some m) clock (seen.push left[c].born) clock)) := by simp [setObj, Sem.run, hr0, put]
  have heR : left[c] ∈ R := (hmemL _).1 (by simp)
  obtain ⟨R1, R2, hRe⟩ := List.append_of_mem heR
  refine ⟨left[c], R1 ++ R2, .mapIter (some m) clock (seen.push left[c].born) clock, w0, ?_, hw0, ⟨?_, ⟨_, put_get hr0, ?_⟩, ?_, h.born, h.young⟩, ?_⟩
  · simp only [next, Sem.run_bind, hg1, Result.andThen_ok, hg2, hy, Bool.false_eq_true, if_false, hleft, hold, hnew, hem, Array.append_empty, Array.empty_append, Array.size_map, hch]
    simp [hcl, hset]
  · have hne' : r ≠ m := by rintro rfl; rw [hr0] at hm0; cases hm0
    rw [← hm0]
    simp [put, Array.getElem?_setIfInBounds_ne hne']
  · simp [hs]
  · refine List.Perm.trans ?_ h.perm
    rw [hRe, List.append_assoc]
    refine List.Perm.append_left V ?_
    simpa using (List.perm_middle (a := left[c]) (l₁ := R1) (l₂ := R2)).symm
  · rw [hRe]; exact List.perm_middle

theorem get_nil (a : α) : get ([] : List (α × Value)) a = none := rfl
theorem get_cons (a b : α) (v : Value) (L : List (α × Value)) : get ((b, v) :: L) a = if a = b then some v else get L a := by
  unfold get
  by_cases h : a = b <;> simp [h]
theorem get_repl_ne (a b : α) (v : Value) (h : b ≠ a) : ∀ L : List (α × Value), get (L.map fun p => if a = p.1 then (p.1, v) else p) b = get L b
  | [] => rfl
  | (c, u) :: L => by
    rw [List.map_cons]
    by_cases hc : a = c
    · subst hc; simp only [if_true]; rw [get_cons, get_cons, if_neg h, if_neg h, get_repl_ne a b v h L]
    · simp only [if_neg hc]; rw [get_cons, get_cons, get_repl_ne a b v h L]
theorem get_repl_eq (a : α) (v : Value) : ∀ L : List (α × Value), (L.find? (fun p => decide (a = p.1))).isSome = true → get (L.map fun p => if a = p.1 then (p.1, v) else p) a = some v
  | [], h => by simp at h
  | (c, u) :: L, h => by
    rw [List.map_cons]
    by_cases hc : a = c
    · subst hc; simp only [if_true]; rw [get_cons, if_pos rfl]
    · simp only [if_neg hc]; rw [get_cons, if_neg hc]
      exact get_repl_eq a v L (by simpa [List.find?_cons, hc] using h)
theorem get_append (a : α) (M : List (α × Value)) : ∀ L : List (α × Value), get (L ++ M) a = (get L a).or (get M a)
  | [] => by simp [get_nil]
  | (c, u) :: L => by
    rw [List.cons_append, get_cons, get_cons, get_append a M L]
    by_cases h : a = c <;> simp [h]
theorem get_isSome (a : α) (L : List (α × Value)) : (get L a).isSome = (L.find? (fun p => decide (a = p.1))).isSome := by unfold get; simp
theorem get_upd (L : List (α × Value)) (a b : α) (v : Value) : get (upd L a v) b = if b = a then some v else get L b := by
  unfold upd
  by_cases hs : (L.find? (fun p => decide (a = p.1))).isSome = true
  · rw [if_pos hs]
    by_cases hb : b = a
    · subst hb; rw [if_pos rfl, get_repl_eq b v L hs]
    · rw [if_neg hb, get_repl_ne a b v hb]
  · rw [if_neg hs, get_append, get_cons, get_nil]
    by_cases hb : b = a
    · subst hb
      have : get L b = none := by
        have := get_isSome b L
        rw [Bool.eq_false_iff.2 hs] at this
        simpa using this
      simp [this]
    · simp [hb]
theorem get_del (L : List (α × Value)) (a b : α) : get (del L a) b = if b = a then none else get L b := by
  induction L with
  | nil => simp [del, get_nil]
  | cons x L ih =>
    obtain ⟨c, u⟩ := x
    unfold del at *
    by_cases hc : a = c
    · subst hc
      rw [List.filter_cons_of_neg (by simp), ih, get_cons]
      by_cases hb : b = a <;> simp [hb]
    · rw [List.filter_cons_of_pos (by simp [hc]), get_cons, get_cons, ih]
      by_cases hb : b = c
      · subst hb; simp [Ne.symm hc]
      · simp [hb]
end
end Go.Mp
