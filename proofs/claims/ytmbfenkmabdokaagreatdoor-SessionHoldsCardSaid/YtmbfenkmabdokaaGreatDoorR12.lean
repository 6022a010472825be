/- Parts of the proof: Dig. -/
import Derived.RangeFuncBox
import Derived.Test.YtmbfenkmabdokaaGreatDoorR11
import Derived.Test.YtmbfenkmabdokaaGreatDoorR00
import Derived.Test.YtmbfenkmabdokaaGreatDoorR07
set_option linter.all false
namespace Go.Proofs.YtmbfenkmabdokaaGreatDoor
open Go.RowKit Go.Mp

theorem start_ok (w : World) : Calls Tryz.prog 177 #[] w fun e w' => e = .returned (.agg (s5C S5.start)) ∧ Below w.heap.size w w' := by
  go_enter Tryz.func177, Tryz.ntmps177
  go_wp2
  refine bodyPost_ret (v := .agg (s5C S5.start)) ?_ rfl ⟨rfl, ?_⟩
  · simp [results, Tryz.results177, go_sem]
    rfl
  · exact (Below.refl _ _).alloc (Nat.le_refl _) _

def z20 : Array Value := Array.replicate 20 (.int .u8 0)
/-- what the rounds of a digest keep -/
structure DW (w wr : World) (zs : Nat) (h : S5) : Prop where
  lo : w.heap.size + 1 ≤ zs
  bel : Below w.heap.size w wr
  rs : wr.heap[w.heap.size]? = some (.cells z20 120 (0, 0))
  st : wr.heap[zs]? = some (.cells (s5C h) 281 (0, 0))
theorem DW.below {w wr wt : World} {zs : Nat} {h : S5} (x : DW w wr zs h) (k : Below wr.heap.size wr wt) : DW w wt zs h :=
  ⟨x.lo, x.bel.trans (k.mono x.bel.size), by rw [k.block _ (lt_of_heap x.rs)]; exact x.rs, by rw [k.block _ (lt_of_heap x.st)]; exact x.st⟩
theorem DW.keepB {w wr wt : World} {zs : Nat} {h : S5} (x : DW w wr zs h) (k : Below (zs + 1) wr wt) : DW w wt zs h :=
  ⟨x.lo, x.bel.trans (k.mono (by have := x.lo; omega)), by rw [k.block _ (by have := x.lo; omega)]; exact x.rs, by rw [k.block _ (by omega)]; exact x.st⟩
/-- the state's store -/
def put5 (w : World) (z : Nat) (h : S5) : World :=
  ((((w.setCell ⟨z, 0, none⟩ (.int .u32 (h.a.toNat : Int))).setCell ⟨z, 1, none⟩ (.int .u32 (h.b.toNat : Int))).setCell ⟨z, 2, none⟩ (.int .u32 (h.c.toNat : Int))).setCell ⟨z, 3, none⟩ (.int .u32 (h.d.toNat : Int))).setCell ⟨z, 4, none⟩ (.int .u32 (h.e.toNat : Int))
theorem put5_heap {w : World} {z : Nat} {g : S5} (h : S5) (hz : w.heap[z]? = some (.cells (s5C g) 281 (0, 0))) : (put5 w z h).heap[z]? = some (.cells (s5C h) 281 (0, 0)) :=
  row_set 4 _ (row_set 3 _ (row_set 2 _ (row_set 1 _ (row_set 0 _ hz))))
theorem put5_kp (w : World) (z : Nat) (h : S5) : Kp (· = z) w (put5 w z h) :=
  (((((Kp.refl (· = z) w).setCell 0 _ rfl).setCell 1 _ rfl).setCell 2 _ rfl).setCell 3 _ rfl).setCell 4 _ rfl
theorem DW.put {w wr : World} {zs : Nat} {g : S5} (x : DW w wr zs g) (h : S5) : DW w (put5 wr zs h) zs h :=
  ⟨x.lo, ⟨(put5_kp wr zs h).os.trans x.bel.os, (put5_kp wr zs h).tape.trans x.bel.tape, (put5_kp wr zs h).output.trans x.bel.output, Nat.le_trans x.bel.size (put5_kp wr zs h).size,
    fun k hk => ((put5_kp wr zs h).block k (Nat.lt_of_lt_of_le hk x.bel.size) (by have := x.lo; show k ≠ zs; omega)).trans (x.bel.block k hk)⟩,
    by rw [(put5_kp wr zs h).block _ (lt_of_heap x.rs) (by have := x.lo; show w.heap.size ≠ zs; omega)]; exact x.rs, put5_heap h x.st⟩

/-- a slice's address behind its first k elements, where they are not all that it has room for -/
def dropA (A : Option Addr) (c k : Nat) : Option Addr := if c = k then A else A.map (·.add (k * 1))
theorem slice_from (W : World) (A : Option Addr) (n c k : Nat) (ki : Int) (hk : ki = k) (h1 : k ≤ n) (h2 : n ≤ c) :
    (Instr.slice 26 (.slice A n c) (some (.int .i64 ki)) none none).run Tryz.prog W = .ok (.slice (dropA A c k) (n - k) (c - k)) W := by
  subst hk
  have hs : (Go.sizeOf 5).run Tryz.prog W = .ok 1 W := by kernel_rfl
  have h3 : (0 : Int) ≤ k ∧ (k : Int) ≤ n := by omega
  simp [Instr.slice, run_underlying Tryz.underlying26, Instr.sliceBounds, Instr.sliceBound, asIntOf, h3, hs, dropA, h1]
theorem slice_to (W : World) (A : Option Addr) (n c k : Nat) (ki : Int) (hk : ki = k) (h1 : k ≤ c) (h0 : 1 ≤ c) :
    (Instr.slice 26 (.slice A n c) none (some (.int .i64 ki)) none).run Tryz.prog W = .ok (.slice A k c) W := by
  subst hk
  have hs : (Go.sizeOf 5).run Tryz.prog W = .ok 1 W := by kernel_rfl
  have h3 : (0 : Int) ≤ k ∧ (k : Int) ≤ c := by omega
  have h4 : c ≠ 0 := by omega
  simp [Instr.slice, run_underlying Tryz.underlying26, Instr.sliceBounds, Instr.sliceBound, asIntOf, h3, hs, h1, h4]
  cases A <;> simp [Addr.add]
theorem RdB.dropA {w : World} {A : Option Addr} {l : Bytes} (h : RdB w A l) (c k : Nat) (hc : l.length ≤ c) : RdB w (dropA A c k) (l.drop k) := by
  by_cases e : c = k
  · exact .inl (List.drop_eq_nil_of_le (by omega))
  · rcases h with rfl | ⟨b, o, rfl, h⟩
    · exact .inl (by simp)
    · refine .inr ⟨b, o + k, ?_, fun i hi => ?_⟩
      · unfold Go.Proofs.YtmbfenkmabdokaaGreatDoor.dropA; rw [if_neg e]; simp [Addr.add]
      rw [List.length_drop] at hi
      rw [List.getElem?_drop, Nat.add_assoc]
      exact h (k + i) (by omega)

theorem s5_load (W : World) (z : Nat) (h : S5) (hz : W.heap[z]? = some (.cells (s5C h) 281 (0, 0))) :
    W.cell? ⟨z, 0, none⟩ = some (.int .u32 (h.a.toNat : Int)) ∧ W.cell? ⟨z, 1, none⟩ = some (.int .u32 (h.b.toNat : Int)) ∧ W.cell? ⟨z, 2, none⟩ = some (.int .u32 (h.c.toNat : Int)) ∧
      W.cell? ⟨z, 3, none⟩ = some (.int .u32 (h.d.toNat : Int)) ∧ W.cell? ⟨z, 4, none⟩ = some (.int .u32 (h.e.toNat : Int)) ∧ ∀ j, W.frozen? ⟨z, j, none⟩ = false := by
  refine ⟨?_, ?_, ?_, ?_, ?_, fun j => by simp [World.frozen?, hz]⟩ <;> (rw [World.cell?]; simp only [hz]; rfl)

theorem RdB.put5 {w : World} {A : Option Addr} {m : Bytes} {z : Nat} {g : S5} (h : RdB w A m) (hz : w.heap[z]? = some (.cells (s5C g) 281 (0, 0))) (h' : S5) : RdB (put5 w z h') A m := by
  rcases h with rfl | ⟨b, o, rfl, h⟩
  · exact .inl rfl
  · by_cases e : b = z
    · subst e
      rcases m with _ | ⟨x, m⟩
      · exact .inl rfl
      · have h0 := h 0 (by simp)
        rw [World.cell?] at h0
        simp only [hz] at h0
        rw [Nat.add_zero] at h0
        exfalso
        rcases o with _ | _ | _ | _ | _ | o
        · simp [s5C, uV] at h0
        · simp [s5C, uV] at h0
        · simp [s5C, uV] at h0
        · simp [s5C, uV] at h0
        · simp [s5C, uV] at h0
        · simp [s5C] at h0
    · refine .inr ⟨b, o, rfl, fun i hi => ?_⟩
      rw [← h i hi]
      exact World.cell?_of_block ((put5_kp w z h').block _ (lt_of_cell (h i hi)) e)

/-- one byte more onto a row of the call's own -/
theorem wpList_app1 {ops : Array Oper} {rest : List Oper} {o : Oper} {a : Act} {w : World} {Q : Exit → Act → World → Prop} (hgd : o.guard = none) (s x : Operand)
    (ho : o.op = .call { callee := .builtin .append, args := #[s, x], argTypes := #[26, 26] })
    (base : Nat) (v : Value) (l : Bytes) (hs : a.eval s = v) (hown : OwB w base v l)
    (g : Nat) (c : UInt8) (hx : a.eval x = .slice (some ⟨g, 0, none⟩) 1 1) (hc : w.cell? ⟨g, 0, none⟩ = some (.int .u8 (c.toNat : Int)))
    (hlen : l.length + 1 ≤ 140737488355328) (hbase : base ≤ w.heap.size)
    (h : ∀ v' w', OwB w' base v' (l ++ [c]) → w.grownBy w' v.ownBlock → wpList Tryz.prog ops Q rest (a.put o.dst v') w') : wpList Tryz.prog ops Q (o :: rest) a w := by
  obtain ⟨i0, hi, hz0, hz1, hz2⟩ := info_parts info_u8
  refine wpList_append_own w hgd s x 26 ho base 5 i0 (.int .u8 0) 1 1 Tryz.underlying26 hi hz0 hz1 hz2 rfl (by decide) v l.length (bcs l) hs hown ⟨g, 0, none⟩ 1 1 [.int .u8 (c.toNat : Int)] hx rfl ?_ ?_ (by unfold maxLen; omega) (by omega) hbase ?_
  · intro j u hj
    match j, hj with
    | 0, hj => simp at hj; subst hj; simpa [Addr.add] using hc
  · intro u hu; simp at hu; subst hu; rfl
  · intro v' w' h1 h2 _
    exact h v' w' (OwB.of_app (b := [c]) (n := 1) h1 rfl) h2

theorem sha_split (l : Bytes) (k i : Nat) (q : Bytes) (hk : 64 * k ≤ l.length) (hq : q = l.drop (64 * k) ++ tailP l.length) (hi : 64 * i = q.length) : sha l = outB (blks (blks S5.start l k) q i) := by
  have hp : padB l = l.take (64 * k) ++ q := by rw [hq, ← List.append_assoc, List.take_append_drop, padB]
  have hlt : (l.take (64 * k)).length = 64 * k := by rw [List.length_take]; omega
  have hlen : (padB l).length / 64 = k + i := by rw [hp, List.length_append, hlt, ← hi]; omega
  have hd : (padB l).drop (64 * k) = q := by rw [hp, List.drop_append_of_le_length (by omega), List.drop_eq_nil_of_le (by omega), List.nil_append]
  unfold sha
  rw [hlen, blks_add, hd]
  congr 2
  apply blks_congr
  intro j hj
  unfold padB
  rw [List.drop_append_of_le_length (by omega), List.take_append_of_le_length (by rw [List.length_drop]; omega)]

/-- a state's numbers in their order -/
def s5at (h : S5) : Nat → UInt32
  | 0 => h.a
  | 1 => h.b
  | 2 => h.c
  | 3 => h.d
  | _ => h.e
theorem s5_cell (W : World) (z : Nat) (h : S5) (hz : W.heap[z]? = some (.cells (s5C h) 281 (0, 0))) (q : Nat) (hq : q < 5) : W.cell? ⟨z, q, none⟩ = some (.int .u32 ((s5at h q).toNat : Int)) := by
  rw [World.cell?]; simp only [hz]
  rcases q with _ | _ | _ | _ | _ | q
  · rfl
  · rfl
  · rfl
  · rfl
  · rfl
  · omega
theorem numB4_get (n j : Nat) (hj : j < 4) : (numB n 4)[j]? = some (UInt8.ofNat (n / 2 ^ (24 - 8 * j))) := by
  have hp : 2 ^ (24 - 8 * j) = 256 ^ (3 - j) := by rw [show 24 - 8 * j = 8 * (3 - j) from by omega, Nat.pow_mul]
  rw [hp]
  simp [numB, hj]
theorem outB_get (h : S5) (j : Nat) (hj : j < 20) : (outB h).getD j 0 = UInt8.ofNat ((s5at h (j / 4)).toNat / 2 ^ (24 - 8 * (j % 4))) := by
  have n4 : ∀ n, (numB n 4).length = 4 := fun n => numB_length n 4
  have key : ∀ q r, q < 5 → r < 4 → (outB h)[4 * q + r]? = some (UInt8.ofNat ((s5at h q).toNat / 2 ^ (24 - 8 * r))) := by
    intro q r hq hr
    unfold outB
    rcases q with _ | _ | _ | _ | _ | q
    · rw [List.getElem?_append_left (by simp [n4] <;> omega), List.getElem?_append_left (by simp [n4] <;> omega), List.getElem?_append_left (by simp [n4] <;> omega), List.getElem?_append_left (by simp [n4] <;> omega), show 4 * 0 + r = r from by omega, numB4_get _ _ hr]; rfl
    · rw [List.getElem?_append_left (by simp [n4] <;> omega), List.getElem?_append_left (by simp [n4] <;> omega), List.getElem?_append_left (by simp [n4] <;> omega), List.getElem?_append_right (by simp [n4] <;> omega), n4, show 4 * (0 + 1) + r - 4 = r from by omega, numB4_get _ _ hr]; rfl
    · rw [List.getElem?_append_left (by simp [n4] <;> omega), List.getElem?_append_left (by simp [n4] <;> omega), List.getElem?_append_right (by simp [n4] <;> omega)]
      simp only [List.length_append, n4]
      rw [show 4 * (0 + 1 + 1) + r - (4 + 4) = r from by omega, numB4_get _ _ hr]; rfl
    · rw [List.getElem?_append_left (by simp [n4] <;> omega), List.getElem?_append_right (by simp [n4] <;> omega)]
      simp only [List.length_append, n4]
      rw [show 4 * (0 + 1 + 1 + 1) + r - (4 + 4 + 4) = r from by omega, numB4_get _ _ hr]; rfl
    · rw [List.getElem?_append_right (by simp [n4] <;> omega)]
      simp only [List.length_append, n4]
      rw [show 4 * (0 + 1 + 1 + 1 + 1) + r - (4 + 4 + 4 + 4) = r from by omega, numB4_get _ _ hr]; rfl
    · omega
  have := key (j / 4) (j % 4) (by omega) (by omega)
  rw [show 4 * (j / 4) + j % 4 = j from by omega] at this
  rw [List.getD_eq_getElem?_getD, this]; rfl
theorem out_byte (h : S5) (j : Nat) (hj : j < 20) : (((s5at h (j / 4)).toNat : Int) / 2 ^ (24 - 8 * (j % 4))) % 256 = (((outB h).getD j 0).toNat : Int) := by
  rw [outB_get h j hj, UInt8.toNat_ofNat']
  have hp2 : (2 : Int) ^ (24 - 8 * (j % 4)) = ((2 ^ (24 - 8 * (j % 4)) : Nat) : Int) := (Int.natCast_pow 2 _).symm
  rw [hp2]
  generalize 2 ^ (24 - 8 * (j % 4)) = d
  rw [← Int.natCast_ediv]
  generalize (s5at h (j / 4)).toNat / d = x
  omega
/-- the first so many bytes are laid -/
def oArr (l : Bytes) (j : Nat) : Array Value := (bcs (l.take j) ++ List.replicate (20 - j) (Value.int .u8 0)).toArray
theorem oArr_size (l : Bytes) (j : Nat) (hl : l.length = 20) (hj : j ≤ 20) : (oArr l j).size = 20 := by simp [oArr, bcs]; omega
theorem oArr_next (l : Bytes) (j : Nat) (hl : l.length = 20) (hj : j < 20) : (oArr l j)[j]? = some (.int .u8 0) := by
  have h1 : (bcs (l.take j)).length = j := by rw [bcs_length, List.length_take]; omega
  simp only [oArr, List.getElem?_toArray]
  rw [List.getElem?_append_right (by rw [h1]; exact Nat.le_refl j), h1, Nat.sub_self, List.getElem?_replicate, if_pos (by omega)]
theorem oArr_full (l : Bytes) (hl : l.length = 20) : oArr l 20 = (bcs l).toArray := by
  unfold oArr; rw [List.take_of_length_le (by omega)]; simp
theorem oArr_step (l : Bytes) (j : Nat) (hl : l.length = 20) (hj : j < 20) : (oArr l j).setIfInBounds j (.int .u8 ((l.getD j 0).toNat : Int)) = oArr l (j + 1) := by
  have h1 : (bcs (l.take j)).length = j := by rw [bcs_length, List.length_take]; omega
  unfold oArr
  rw [show 20 - j = (20 - (j + 1)) + 1 from by omega, List.replicate_succ, List.setIfInBounds_toArray]
  congr 1
  rw [List.set_append, if_neg (by omega), h1, Nat.sub_self, List.set_cons_zero, List.take_succ_eq_append_getElem (by omega), bcs_append, List.append_assoc]
  congr 1
  simp [bcs, bv, List.getD_eq_getElem?_getD, List.getElem?_eq_getElem (show j < l.length from by omega)]

theorem len_byte (n j : Nat) (hn : n ≤ 140737488355100) (hj : j < 8) :
    (n : Int) * 8 / 2 ^ (56 - 8 * j) % 256 = (((numB (8 * n % 18446744073709551616) 8).getD j 0).toNat : Int) := by
  have e : (numB (8 * n % 18446744073709551616) 8).getD j 0 = UInt8.ofNat (8 * n / 256 ^ (7 - j)) := by
    rw [Nat.mod_eq_of_lt (by omega)]
    simp [numB, List.getD_eq_getElem?_getD, hj]
  rw [e, UInt8.toNat_ofNat']
  have hp : 2 ^ (56 - 8 * j) = 256 ^ (7 - j) := by
    rw [show 56 - 8 * j = 8 * (7 - j) from by omega, Nat.pow_mul]
  have hp2 : (2 : Int) ^ (56 - 8 * j) = ((256 ^ (7 - j) : Nat) : Int) := by rw [← hp]; exact (Int.natCast_pow 2 _).symm
  rw [hp2, show (n : Int) * 8 = ((8 * n : Nat) : Int) from by omega]
  generalize 256 ^ (7 - j) = d
  rw [← Int.natCast_ediv]
  generalize 8 * n / d = x
  omega

/-- an own row's value -/
theorem OwB.slice {w : World} {base : Nat} {v : Value} {l : Bytes} (h : OwB w base v l) : ∃ A c, v = .slice A l.length c ∧ l.length ≤ c ∧ c ≤ maxLen ∧ RdB w A l ∧ (∀ a, A = some a → base ≤ a.block ∧ a.block < w.heap.size) := h.rd

set_option maxRecDepth 100000 in
set_option maxHeartbeats 8000000 in
theorem digest_ok (w : World) (A : Option Addr) (c : Nat) (l : Bytes) (hl : RdB w A l) (hn : l.length ≤ 140737488355100) (hc : l.length ≤ c) (hcm : c ≤ maxLen) :
    Calls Tryz.prog 133 #[.slice A l.length c] w fun e w' => e = .returned (.agg (bcs (sha l)).toArray) ∧ Below w.heap.size w w' := by
  have hmx : (9223372036854775807 : Nat) = maxLen := rfl
  have HMX := Lib.hid hmx
  clear hmx
  go_enter Tryz.func133, Tryz.ntmps133
  go_wp2_with fail
  refine (start_ok _).mono ?_
  rintro e w2 ⟨rfl, hb2⟩
  unfold s5C uV
  have x0 := heap_below (heap_alloc_new w (.cells z20 120)) hb2
  have hbA : Below w.heap.size w w2 := ((Below.refl _ _).alloc (Nat.le_refl _) _).trans (hb2.mono (by simp))
  have hz2 := lt_of_heap x0
  have D0 : DW w (w2.alloc (.cells (s5C S5.start) 281)) w2.heap.size S5.start :=
    ⟨by omega, hbA.alloc hbA.size _, by rw [Below.heap_alloc _ _ _ hz2]; exact x0, heap_alloc_new w2 _⟩
  have D0 := Lib.hid D0
  clear hb2 hbA x0
  dsimp only
  go_wp2_with fail
  show Code.wp _ _ _ _ (w2.alloc (.cells (s5C S5.start) 281))
  go_loopw [4] (fun v wr => ∃ (k : Nat) (m : Bytes) (A' : Option Addr) (c' : Nat), m = l.drop (64 * k) ∧ 64 * k ≤ l.length ∧ v = .slice A' m.length c' ∧ m.length ≤ c' ∧ c' ≤ maxLen ∧ RdB wr A' m ∧ DW w wr w2.heap.size (blks S5.start l k))
    (fun v _ => match v with | .slice _ n _ => n | _ => 0)
  case atStart => exact ⟨0, l, A, c, by simp, by omega, rfl, hc, hcm, hl.below D0.out.bel, D0.out⟩
  case round =>
    obtain ⟨k, m, A', c', hm, hk, rfl, hc1, hc2, hr, hD⟩ := hrel
    have hm1 : m.length = l.length - 64 * k := by rw [hm, List.length_drop]
    by_cases hge : 64 ≤ m.length
    · have s1 := fun W => slice_to W A' m.length c' 64 64 rfl (by omega) (by omega)
      have s2 := fun W => slice_from W A' m.length c' 64 64 rfl (by omega) (by omega)
      have hst := s5_load wr.drew w2.heap.size _ hD.st
      have cB := block_ok wr.drew (blks S5.start l k) A' c' (m.take 64) ((hr.below (Below.refl _ _).drew).take 64) (by rw [List.length_take]; omega) (by omega)
      have hnx : blk (blks S5.start l k) (m.take 64) = blks S5.start l (k + 1) := by rw [blks, hm]
      generalize blks S5.start l k = g at *
      obtain ⟨y0, y1, y2, y3, y4, yf⟩ := hst
      obtain ⟨S, hSd⟩ : ∃ S : World → Prop, ∀ w', S w' ↔ (w'.cell? ⟨w2.heap.size, 0, none⟩ = some (.int .u32 (g.a.toNat : Int)) ∧ w'.cell? ⟨w2.heap.size, 1, none⟩ = some (.int .u32 (g.b.toNat : Int)) ∧ w'.cell? ⟨w2.heap.size, 2, none⟩ = some (.int .u32 (g.c.toNat : Int)) ∧ w'.cell? ⟨w2.heap.size, 3, none⟩ = some (.int .u32 (g.d.toNat : Int)) ∧ w'.cell? ⟨w2.heap.size, 4, none⟩ = some (.int .u32 (g.e.toNat : Int))) := ⟨_, fun _ => Iff.rfl⟩
      have hS : S wr.drew := (hSd _).2 ⟨y0, y1, y2, y3, y4⟩
      have HSd := Lib.hid hSd; have HD := Lib.hid hD; have HR := Lib.hid hr; have HNX := Lib.hid hnx; have HM := Lib.hid hm; have HM1 := Lib.hid hm1; have CB := Lib.hid cB
      clear hSd hD hr hnx hm hm1 cB y0 y1 y2 y3 y4 yf D0
      go_wp2
      refine wp_region_J (by kernel_rfl) S 6 ?_
      refine wpAnyJ_take 0 (v := ?_) rfl (by kernel_rfl) (by kernel_rfl) (by kernel_rfl) (by kernel_rfl) (by decide) (fun _ _ _ h => h) (.inl ⟨rfl, fun w' hS' => ?_⟩) hS ?_; rotate_left 1; focus (have hf := (HSd.out w').1 hS'; (repeat (obtain ⟨_, hf⟩ := hf)); go_simp; (try rfl))
      refine wpAnyJ_ptake 1 (v := ?_) rfl (by kernel_rfl) (by kernel_rfl) (by kernel_rfl) (by decide) (fun _ _ _ h => h) (.inl ⟨rfl, fun w' => ?_⟩) hS ?_; rotate_left 1; focus (go_simp; (try rfl))
      refine wpAnyJ_ptake 2 (v := ?_) rfl (by kernel_rfl) (by kernel_rfl) (by kernel_rfl) (by decide) (fun _ _ _ h => h) (.inl ⟨rfl, fun w' => ?_⟩) hS ?_; rotate_left 1; focus (go_simp; (try rfl))
      refine wpAnyJ_ptake 4 (v := ?_) rfl (by kernel_rfl) (by kernel_rfl) (by kernel_rfl) (by decide) (fun _ _ _ h => h) (.inl ⟨rfl, fun w' => ?_⟩) hS ?_; rotate_left 1; focus (go_simp; (try rfl))
      refine wpAnyJ_ptake 5 (v := ?_) rfl (by kernel_rfl) (by kernel_rfl) (by kernel_rfl) (by decide) (fun _ _ _ h => h) (.inl ⟨rfl, fun w' => ?_⟩) hS ?_; rotate_left 1; focus (go_simp; (try rfl))
      refine wpAnyJ_one 3 (by kernel_rfl) (wpOp_step rfl (fun K hK => ?_)); go_simp
      refine CB.out.mono ?_
      rintro e w3 ⟨rfl, hb3⟩
      have hb3' : Below wr.heap.size wr w3 := (Below.refl _ _).drew.trans hb3
      have D3 := HD.out.below hb3'
      have hst := s5_load w3 w2.heap.size _ D3.st
      obtain ⟨y0, y1, y2, y3, y4, yf⟩ := hst
      have hS := (HSd.out w3).2 ⟨y0, y1, y2, y3, y4⟩
      refine hK _ _ ⟨fun _ => ⟨hS, ?_⟩, fun h => absurd h (by decide)⟩
      clear hK K
      have D4 := D3.put (blk g (m.take 64))
      have R4 : RdB (put5 w3 w2.heap.size (blk g (m.take 64))) (dropA A' c' 64) (m.drop 64) := by
        exact RdB.dropA ((HR.out.below hb3').put5 D3.st _) c' 64 hc1
      have D4 := Lib.hid D4; have R4 := Lib.hid R4
      rw [HNX.out] at *
      unfold s5C uV
      refine wpAnyJ_one 6 (by kernel_rfl) (wpOp_step rfl (fun K hK => ?_)); go_simp; refine hK _ _ ⟨fun h => absurd rfl h, fun _ => ?_⟩; clear hK K
      refine wpAny_one' 7 (by kernel_rfl) (wpOp_step rfl (fun K hK => ?_)); go_simp; refine hK _ _ ?_; clear hK K
      refine wpAny_done' (by kernel_rfl) ?_ _
      go_simp
      have e64 : m.length - 64 = (m.drop 64).length := by rw [List.length_drop]
      rw [e64]
      have q1 : m.drop 64 = l.drop (64 * (k + 1)) := by rw [HM.out, List.drop_drop]; congr 1
      have q2 : 64 * (k + 1) ≤ l.length := by have := HM1.out; omega
      have q3 : (m.drop 64).length ≤ c' - 64 := by rw [List.length_drop]; omega
      have q4 : (m.drop 64).length < m.length := by rw [List.length_drop]; omega
      have Q1 := Lib.hid q1; have Q4 := Lib.hid q4
      clear e64 q1 q4
      go_roundw
      case rel => first | exact ⟨k + 1, m.drop 64, dropA A' c' 64, c' - 64, Q1.out, q2, rfl, q3, by omega, R4.out, D4.out⟩ | ((repeat apply Exists.intro); exact ⟨⟨k + 1, m.drop 64, dropA A' c' 64, c' - 64, Q1.out, q2, rfl, q3, by omega, R4.out, D4.out⟩, rfl⟩)
      case measure => exact Q4.out
    · have hsrc := hr.src c'
      have hzs : w2.heap.size + 1 ≤ wr.heap.size := lt_of_heap hD.st
      have hown0 := World.ownsRow_nil wr (w2.heap.size + 1) 5 1
      obtain ⟨i8, hi8, hz8, hsz8, hby8⟩ := info_parts info_u8
      have hmn : m.length < 64 := by omega
      have HD := Lib.hid hD; have HM := Lib.hid hm; have HM1 := Lib.hid hm1
      have ek : m = l.drop (64 * k) := hm
      clear hD hm hm1 hr D0 hge
      have HEK := Lib.hid ek
      clear ek
      go_wp2_with (at_builtin; refine wpList_append_src _ rfl (.const (.slice none 0 0)) (.tmp 21) 26 26 rfl (w2.heap.size + 1) 5 i8 (.int .u8 0) 1 1 Tryz.underlying26 hi8 hz8 hsz8 hby8 rfl (.slice none 0 0) _ 0 [] rfl rfl hown0 m.length _ hsrc ?_ ?_ ?_ ?_)
      · unfold maxLen; omega
      · omega
      · omega
      intro v1 w3 hown1 hg1
      have ow1 : OwB w3 (w2.heap.size + 1) v1 m := by rw [OwB]; simpa using hown1
      have D3 := HD.out.keepB ((Below.refl (w2.heap.size + 1) wr).grown hg1 hzs (fun k hk => by simp [Value.ownBlock] at hk))
      have hz3 : w2.heap.size + 1 ≤ w3.heap.size := Nat.le_trans hzs hg1.size
      have D3 := Lib.hid D3
      clear hsrc hown0 hown1 hg1 HD
      go_wp2_with (at_builtin; refine wpList_app1 rfl (.tmp 22) (.tmp 23) rfl (w2.heap.size + 1) v1 m rfl (ow1.alloc _) w3.heap.size 128 rfl ?_ (by omega) ?_ ?_)
      · exact (Boxed.new w3 5 (.int .u8 128)).cell
      · simp; omega
      intro v2 w4 ow2 hg2
      have D4 := D3.out.keepB (((Below.refl (w2.heap.size + 1) w3).alloc hz3 _).grown hg2 (by simp; omega) (fun k hk => (ow1.lt k hk).1))
      have hz4 : w2.heap.size + 1 ≤ w4.heap.size := Nat.le_trans hz3 (Nat.le_trans (by simp) hg2.size)
      have D4 := Lib.hid D4
      have hzp := zpad_le l.length
      have hml : m.length + 64 * k = l.length := by have := HM1.out; omega
      have HML := Lib.hid hml
      clear ow1 hg2 D3 hml
      generalize hgg : blks S5.start l k = g at *
      have HGG := Lib.hid hgg
      clear hgg
      go_wp2
      go_loopw [5] (fun v wr => ∃ j : Nat, j ≤ zpad l.length ∧ OwB wr (w2.heap.size + 1) v (m ++ [128] ++ List.replicate j 0) ∧ DW w wr w2.heap.size g ∧ w2.heap.size + 1 ≤ wr.heap.size) (fun v _ => match v with | .slice _ n _ => (m.length + 1 + zpad l.length) - n | _ => 0)
      case atStart => exact ⟨0, Nat.zero_le _, by simpa using ow2, D4.out, hz4⟩
      case round =>
        obtain ⟨j, hj, how, hD, hzr⟩ := hrel
        clear ow2 D4
        obtain ⟨t, ht⟩ : ∃ t : Bytes, t = m ++ [128] ++ List.replicate j 0 := ⟨_, rfl⟩
        have htl : t.length = m.length + 1 + j := by rw [ht]; simp; omega
        rw [← ht] at how
        have htn : t ++ [0] = m ++ [128] ++ List.replicate (j + 1) 0 := by rw [ht, List.replicate_succ', ← List.append_assoc]
        obtain ⟨A5, c5, rfl, hc5, hm5, hr5, _⟩ := how.slice
        have HT := Lib.hid ht; have HTN := Lib.hid htn; have HTL := Lib.hid htl; have HD5 := Lib.hid hD
        clear ht htn hD
        by_cases hjz : j < zpad l.length
        · have hb : ((t.length : Int) % 64 != 56) = true := by
            rw [bne_iff_ne]; have := HML.out; unfold zpad at hjz; omega
          have htb : t.length + 1 ≤ 140737488355328 := by omega
          clear htl
          go_wp2_with (at_builtin; refine wpList_app1 rfl (.tmp 29) (.tmp 30) rfl (w2.heap.size + 1) _ t rfl (how.alloc _) wr.heap.size 0 rfl ?_ htb ?_ ?_)
          · exact (Boxed.new wr 5 (.int .u8 0)).cell
          · simp; omega
          intro v6 w6 ow6 hg6
          have D6 := HD5.out.keepB (((Below.refl (w2.heap.size + 1) wr).alloc hzr _).grown hg6 (by simp; omega) (fun k hk => (how.lt k hk).1))
          have hz6 : w2.heap.size + 1 ≤ w6.heap.size := Nat.le_trans hzr (Nat.le_trans (by simp) hg6.size)
          rw [HTN.out] at ow6
          obtain ⟨A6, c6, rfl, _⟩ := ow6.slice
          have D6 := Lib.hid D6; have OW6 := Lib.hid ow6
          have hmm : m.length + 1 + zpad l.length - (m ++ [128] ++ List.replicate (j + 1) 0).length < m.length + 1 + zpad l.length - t.length := by
            rw [HTL.out]; simp; omega
          have HMM := Lib.hid hmm
          clear how hg6 ow6 hmm
          go_wp2
          go_roundw
          case rel => first | exact ⟨j + 1, by omega, OW6.out, D6.out, hz6⟩ | ((repeat apply Exists.intro); exact ⟨⟨j + 1, by omega, OW6.out, D6.out, hz6⟩, rfl⟩)
          case measure => exact HMM.out
        · obtain rfl : j = zpad l.length := by omega
          have hb : ((t.length : Int) % 64 != 56) = false := by
            rw [bne_eq_false_iff_eq]; have := HML.out; unfold zpad at htl; omega
          have OW := Lib.hid how
          clear how hr5 htl
          go_wp2
          clear hb
          obtain ⟨NB, hNB⟩ : ∃ NB : Bytes, NB = numB (8 * l.length % 18446744073709551616) 8 := ⟨_, rfl⟩
          have hNl : NB.length = 8 := by rw [hNB, numB_length]
          have HNB := Lib.hid hNB
          clear hNB
          go_loopw [5, 7] (fun v sh wq => ∃ j : Nat, j ≤ 8 ∧ sh = .int .i64 (56 - 8 * (j : Int)) ∧ OwB wq (w2.heap.size + 1) v (t ++ NB.take j) ∧ DW w wq w2.heap.size g ∧ w2.heap.size + 1 ≤ wq.heap.size) (fun _ sh _ => (64 + intOf sh).toNat)
          case atStart => exact ⟨0, by omega, rfl, by simpa using OW.out, HD5.out, hzr⟩
          case round =>
            obtain ⟨j, hj, rfl, how, hD, hzq⟩ := hrel
            clear OW HD5
            obtain ⟨q, hq⟩ : ∃ q : Bytes, q = t ++ NB.take j := ⟨_, rfl⟩
            rw [← hq] at how
            obtain ⟨A7, c7, rfl, _⟩ := how.slice
            have HQ := Lib.hid hq; have HD7 := Lib.hid hD
            clear hq hD
            by_cases hj8 : j < 8
            · have e8 := len_byte l.length j hn hj8
              rw [← HNB.out] at e8
              have hnx : q ++ [NB.getD j 0] = t ++ NB.take (j + 1) := by
                rw [HQ.out, List.append_assoc, List.take_succ_eq_append_getElem (by omega), List.getD_eq_getElem?_getD, List.getElem?_eq_getElem (by omega)]; rfl
              have hql : q.length + 1 ≤ 140737488355328 := by
                rw [HQ.out, List.length_append, List.length_take]; have := HTL.out; omega
              have HNX := Lib.hid hnx
              generalize NB.getD j 0 = bb at *
              clear hnx
              go_wp2_with (at_builtin; refine wpList_app1 rfl (.tmp 40) (.tmp 45) rfl (w2.heap.size + 1) _ q rfl (how.alloc _) wr.heap.size bb rfl ?_ hql ?_ ?_)
              · exact (Boxed.new wr 5 (.int .u8 (bb.toNat : Int))).cell
              · simp; omega
              intro v8 w8 ow8 hg8
              have D8 := HD7.out.keepB (((Below.refl (w2.heap.size + 1) wr).alloc hzq _).grown hg8 (by simp; omega) (fun k hk => (how.lt k hk).1))
              have hz8 : w2.heap.size + 1 ≤ w8.heap.size := Nat.le_trans hzq (Nat.le_trans (by simp) hg8.size)
              rw [HNX.out] at ow8
              obtain ⟨A8, c8, rfl, _⟩ := ow8.slice
              have D8 := Lib.hid D8; have OW8 := Lib.hid ow8
              clear how hg8 ow8 e8
              go_wp2
              go_roundw
              case rel => first | exact ⟨j + 1, by omega, by congr 1 <;> omega, OW8.out, D8.out, hz8⟩ | ((repeat apply Exists.intro); exact ⟨⟨j + 1, by omega, by congr 1 <;> omega, OW8.out, D8.out, hz8⟩, rfl⟩)
              case measure => simp [intOf]; omega
            · obtain rfl : j = 8 := by omega
              have hT : q = m ++ tailP l.length := by
                rw [HQ.out, HT.out, List.take_of_length_le (by omega), HNB.out, tailP, List.append_assoc, List.append_assoc, List.append_assoc]
              have hq64 : q.length % 64 = 0 := by
                rw [hT, List.length_append, tailP_length]; have := HML.out; unfold zpad; omega
              have hq2 : q.length ≤ 1000 := by rw [hT, List.length_append, tailP_length]; omega
              obtain ⟨_, _, e9, hc9, hm9, hr9, _⟩ := how.slice
              cases e9
              have HTq := Lib.hid hT
              clear hT how
              rw [show (56 - 8 * ((8 : Nat) : Int)) = -8 from by decide]
              go_wp2
              go_loopw [5] (fun v wq => ∃ (i : Nat) (u : Bytes) (A' : Option Addr) (c' : Nat), u = q.drop (64 * i) ∧ 64 * i ≤ q.length ∧ v = .slice A' u.length c' ∧ u.length ≤ c' ∧ c' ≤ maxLen ∧ RdB wq A' u ∧ DW w wq w2.heap.size (blks g q i))
                (fun v _ => match v with | .slice _ n _ => n | _ => 0)
              case atStart => exact ⟨0, q, A7, c7, by simp, by omega, rfl, hc9, hm9, hr9, HD7.out⟩
              case round =>
                obtain ⟨i, u, A9, c9, hu, hi, rfl, hcA, hcB, hr, hD⟩ := hrel
                have hu1 : u.length = q.length - 64 * i := by rw [hu, List.length_drop]
                by_cases hge2 : 0 < u.length
                · have hge : 64 ≤ u.length := by omega
                  have s1 := fun W => slice_to W A9 u.length c9 64 64 rfl (by omega) (by omega)
                  have s2 := fun W => slice_from W A9 u.length c9 64 64 rfl (by omega) (by omega)
                  have hst := s5_load wr.drew w2.heap.size _ hD.st
                  have cB := block_ok wr.drew (blks g q i) A9 c9 (u.take 64) ((hr.below (Below.refl _ _).drew).take 64) (by rw [List.length_take]; omega) (by omega)
                  have hnx : blk (blks g q i) (u.take 64) = blks g q (i + 1) := by rw [blks, hu]
                  have hge3 : ¬ u.length = 0 := by omega
                  generalize blks g q i = gg at *
                  obtain ⟨y0, y1, y2, y3, y4, yf⟩ := hst
                  obtain ⟨S, hSd⟩ : ∃ S : World → Prop, ∀ w', S w' ↔ (w'.cell? ⟨w2.heap.size, 0, none⟩ = some (.int .u32 (gg.a.toNat : Int)) ∧ w'.cell? ⟨w2.heap.size, 1, none⟩ = some (.int .u32 (gg.b.toNat : Int)) ∧ w'.cell? ⟨w2.heap.size, 2, none⟩ = some (.int .u32 (gg.c.toNat : Int)) ∧ w'.cell? ⟨w2.heap.size, 3, none⟩ = some (.int .u32 (gg.d.toNat : Int)) ∧ w'.cell? ⟨w2.heap.size, 4, none⟩ = some (.int .u32 (gg.e.toNat : Int))) := ⟨_, fun _ => Iff.rfl⟩
                  have hS : S wr.drew := (hSd _).2 ⟨y0, y1, y2, y3, y4⟩
                  have HSd := Lib.hid hSd; have HD := Lib.hid hD; have HR := Lib.hid hr; have HNX := Lib.hid hnx; have HM := Lib.hid hu; have HM1 := Lib.hid hu1; have CB := Lib.hid cB
                  clear hSd hD hr hnx hu hu1 cB y0 y1 y2 y3 y4 yf HD7
                  go_wp2
                  refine wp_region_J (by kernel_rfl) S 6 ?_
                  refine wpAnyJ_take 0 (v := ?_) rfl (by kernel_rfl) (by kernel_rfl) (by kernel_rfl) (by kernel_rfl) (by decide) (fun _ _ _ h => h) (.inl ⟨rfl, fun w' hS' => ?_⟩) hS ?_; rotate_left 1; focus (have hf := (HSd.out w').1 hS'; (repeat (obtain ⟨_, hf⟩ := hf)); go_simp; (try rfl))
                  refine wpAnyJ_ptake 1 (v := ?_) rfl (by kernel_rfl) (by kernel_rfl) (by kernel_rfl) (by decide) (fun _ _ _ h => h) (.inl ⟨rfl, fun w' => ?_⟩) hS ?_; rotate_left 1; focus (go_simp; (try rfl))
                  refine wpAnyJ_ptake 2 (v := ?_) rfl (by kernel_rfl) (by kernel_rfl) (by kernel_rfl) (by decide) (fun _ _ _ h => h) (.inl ⟨rfl, fun w' => ?_⟩) hS ?_; rotate_left 1; focus (go_simp; (try rfl))
                  refine wpAnyJ_ptake 4 (v := ?_) rfl (by kernel_rfl) (by kernel_rfl) (by kernel_rfl) (by decide) (fun _ _ _ h => h) (.inl ⟨rfl, fun w' => ?_⟩) hS ?_; rotate_left 1; focus (go_simp; (try rfl))
                  refine wpAnyJ_ptake 5 (v := ?_) rfl (by kernel_rfl) (by kernel_rfl) (by kernel_rfl) (by decide) (fun _ _ _ h => h) (.inl ⟨rfl, fun w' => ?_⟩) hS ?_; rotate_left 1; focus (go_simp; (try rfl))
                  refine wpAnyJ_one 3 (by kernel_rfl) (wpOp_step rfl (fun K hK => ?_)); go_simp
                  refine CB.out.mono ?_
                  rintro e w3 ⟨rfl, hb3⟩
                  have hb3' : Below wr.heap.size wr w3 := (Below.refl _ _).drew.trans hb3
                  have D3 := HD.out.below hb3'
                  have hst := s5_load w3 w2.heap.size _ D3.st
                  obtain ⟨y0, y1, y2, y3, y4, yf⟩ := hst
                  have hS := (HSd.out w3).2 ⟨y0, y1, y2, y3, y4⟩
                  refine hK _ _ ⟨fun _ => ⟨hS, ?_⟩, fun h => absurd h (by decide)⟩
                  clear hK K
                  have D4 := D3.put (blk gg (u.take 64))
                  have R4 : RdB (put5 w3 w2.heap.size (blk gg (u.take 64))) (dropA A9 c9 64) (u.drop 64) := RdB.dropA ((HR.out.below hb3').put5 D3.st _) c9 64 hcA
                  have D4 := Lib.hid D4; have R4 := Lib.hid R4
                  rw [HNX.out] at *
                  unfold s5C uV
                  refine wpAnyJ_one 6 (by kernel_rfl) (wpOp_step rfl (fun K hK => ?_)); go_simp; refine hK _ _ ⟨fun h => absurd rfl h, fun _ => ?_⟩; clear hK K
                  refine wpAny_one' 7 (by kernel_rfl) (wpOp_step rfl (fun K hK => ?_)); go_simp; refine hK _ _ ?_; clear hK K
                  refine wpAny_done' (by kernel_rfl) ?_ _
                  go_simp
                  have e64 : u.length - 64 = (u.drop 64).length := by rw [List.length_drop]
                  rw [e64]
                  have q1 : u.drop 64 = q.drop (64 * (i + 1)) := by rw [HM.out, List.drop_drop]; congr 1
                  have q2 : 64 * (i + 1) ≤ q.length := by have := HM1.out; omega
                  have q3 : (u.drop 64).length ≤ c9 - 64 := by rw [List.length_drop]; omega
                  have q4 : (u.drop 64).length < u.length := by rw [List.length_drop]; omega
                  have Q1 := Lib.hid q1; have Q4 := Lib.hid q4
                  clear e64 q1 q4
                  go_roundw
                  case rel => first | exact ⟨i + 1, u.drop 64, dropA A9 c9 64, c9 - 64, Q1.out, q2, rfl, q3, by omega, R4.out, D4.out⟩ | ((repeat apply Exists.intro); exact ⟨⟨i + 1, u.drop 64, dropA A9 c9 64, c9 - 64, Q1.out, q2, rfl, q3, by omega, R4.out, D4.out⟩, rfl⟩)
                  case measure => exact Q4.out
                · have hu0 : u.length = 0 := by omega
                  have hi64 : 64 * i = q.length := by omega
                  have hsha : sha l = outB (blks g q i) := by
                    rw [← HGG.out]
                    exact sha_split l k i q (by have := HM1.out; omega) (by rw [HTq.out, HEK.out]) hi64
                  have HSH := Lib.hid hsha; have HD := Lib.hid hD
                  have hzw := lt_of_heap hD.st
                  generalize blks g q i = gg at *
                  clear hsha hD hr hu hu1 hi64 HD7
                  rw [hu0]
                  go_wp2
                  obtain ⟨wo, rfl⟩ : ∃ wo : World, wo = wr := ⟨_, rfl⟩
                  have hout := outB_length gg
                  have O0 : (wo.alloc (.cells (oArr (outB gg) 0) 120)).heap[wo.heap.size]? = some (.cells (oArr (outB gg) 0) 120 (0, 0)) := heap_alloc_new wo _
                  have D9 := HD.out.below ((Below.refl _ _).alloc (Nat.le_refl _) (.cells (oArr (outB gg) 0) 120))
                  have O0 := Lib.hid O0; have D9 := Lib.hid D9; have HOUT := Lib.hid hout
                  clear hout HD
                  go_loopw [56] (fun i wq => ∃ j : Nat, j ≤ 20 ∧ i = .int .i64 j ∧ DW w wq w2.heap.size gg ∧ wq.heap[wo.heap.size]? = some (.cells (oArr (outB gg) j) 120 (0, 0))) (fun i _ => 20 - (intOf i).toNat)
                  case atStart => exact ⟨0, by omega, rfl, D9.out, O0.out⟩
                  case round =>
                    obtain ⟨j, hj, rfl, hD, hO⟩ := hrel
                    clear D9 O0
                    by_cases hj20 : j < 20
                    · have y := s5_cell wr w2.heap.size gg hD.st (j / 4) (by omega)
                      have hby := out_byte gg j hj20
                      have hz1 : wr.cell? ⟨wo.heap.size, j, none⟩ = some (.int .u8 0) := by
                        rw [World.cell?]; simp only [hO]; exact oArr_next _ j HOUT.out hj20
                      have hz2 : wr.frozen? ⟨wo.heap.size, j, none⟩ = false := by simp [World.frozen?, hO]
                      have hO2 : (wr.setCell ⟨wo.heap.size, j, none⟩ (.int .u8 (((outB gg).getD j 0).toNat : Int))).heap[wo.heap.size]? = some (.cells (oArr (outB gg) (j + 1)) 120 (0, 0)) := by
                        rw [← oArr_step (outB gg) j HOUT.out hj20]; exact row_set j _ hO
                      have hD2 : DW w (wr.setCell ⟨wo.heap.size, j, none⟩ (.int .u8 (((outB gg).getD j 0).toNat : Int))) w2.heap.size gg := hD.keepB ((Below.refl _ _).setCell (by show w2.heap.size + 1 ≤ wo.heap.size; omega) _)
                      generalize (outB gg).getD j 0 = bb at *
                      have HO2 := Lib.hid hO2; have HD2 := Lib.hid hD2
                      have h4 : (j : Int) / 4 < 5 := by omega
                      clear hO hD hO2 hD2
                      go_wp2
                      exact ⟨⟨j + 1, by omega, by go_num, HD2.out, HO2.out⟩, by simp [intOf]; omega⟩
                    · obtain rfl : j = 20 := by omega
                      rw [oArr_full _ HOUT.out] at hO
                      rw [← HSH.out] at *
                      have hsl := sha_length l
                      have hbl : (bcs (sha l)).toArray.size = 20 := by rw [List.size_toArray, bcs_length, hsl]
                      have hi20 : (Tryz.prog.info? 120).map (·.size) = some (bcs (sha l)).toArray.size := by rw [hbl]; kernel_rfl
                      have hall : (bcs (sha l)).toArray.all (·.oneCell') = true := by
                        rw [List.all_toArray, List.all_eq_true]; exact bcs_one _
                      have hz20 : z20.size = (bcs (sha l)).toArray.size := by rw [hbl]; rfl
                      have hrs := hD.rs
                      have HB := Lib.hid hD.bel
                      have hfin := setRow_heap wr w.heap.size _ (bcs (sha l)).toArray _ _ hrs
                      have HF := Lib.hid hfin
                      clear hD hfin hsl hbl
                      generalize harr : (bcs (sha l)).toArray = arr at *
                      have HARR := Lib.hid harr
                      clear harr
                      go_wp2_with first | (refine wpList_load_row rfl 120 _ rfl wo.heap.size rfl _ arr _ _ hO Tryz.underlying120 rfl hi20 ?_) | (refine wpList_store_row rfl 120 _ _ rfl w.heap.size arr rfl rfl 120 z20 hrs hi20 hz20 hall ?_) | fail
                      exact bodyPost_ret (v := .agg arr) (results_cell_row (p := 2) (ty := 120) rfl _ _ w.heap.size 120 _ (0, 0) _ rfl HF.out Tryz.underlying120 rfl hi20) rfl ⟨by rw [HARR.out], below_setRow HB.out (Nat.le_refl _) _⟩
end Go.Proofs.YtmbfenkmabdokaaGreatDoor
