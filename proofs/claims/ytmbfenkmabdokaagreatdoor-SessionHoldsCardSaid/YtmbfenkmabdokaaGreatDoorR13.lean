/- Parts of the proof: Tag, Build. -/
import Derived.Laws.CopyOwn
import Derived.ArgAppend
import Derived.Lib.FrozenHead
import Derived.Lib.OthersKept
import Derived.Lib.Builder
import Derived.OwnWalk
import Derived.Test.YtmbfenkmabdokaaGreatDoorR12
import Derived.Test.YtmbfenkmabdokaaGreatDoorR00
import Derived.Test.YtmbfenkmabdokaaGreatDoorR10
import Derived.Test.YtmbfenkmabdokaaGreatDoorR08
set_option linter.all false
namespace Go.Proofs.YtmbfenkmabdokaaGreatDoor
open Go.RowKit Go.Mp

theorem Kp.setRow (w : World) (g : Nat) (cs : Array Value) : Kp (· = g) w (w.setRow g cs) :=
  ⟨rfl, rfl, rfl, by simp [World.setRow], fun k _ hn => setRow_other w g k cs hn⟩
def zs64 : Bytes := List.replicate 64 0

/-- a copy into the head of an array of 64 bytes -/
theorem wpList_copy64 {ops : Array Oper} {rest : List Oper} {o : Oper} {a : Act} {w : World} {Q : Exit → Act → World → Prop} (hgd : o.guard = none) (d s : Operand)
    (ho : o.op = .call { callee := .builtin .copy, args := #[d, s], argTypes := #[26, 26] })
    (g : Nat) (A : Option Addr) (c : Nat) (kb : Bytes) (hd : a.eval d = .slice (some ⟨g, 0, none⟩) 64 64) (hs : a.eval s = .slice A kb.length c)
    (hg : w.heap[g]? = some (.cells (bcs zs64).toArray 201 (0, 0))) (hk : RdB w A kb) (hlen : kb.length ≤ 64)
    (h : ∀ w', w'.heap[g]? = some (.cells (bcs (kb ++ List.replicate (64 - kb.length) 0)).toArray 201 (0, 0)) → Kp (· = g) w w' → wpList Tryz.prog ops Q rest (a.put o.dst (goInt kb.length)) w') : wpList Tryz.prog ops Q (o :: rest) a w := by
  rcases hk with rfl | ⟨b, off, rfl, hk⟩
  · refine wpList_copy_nothing hgd d s 26 26 ho 5 Tryz.underlying26 u8_size _ _ _ _ _ _ hd hs (by simp) ?_
    exact h w (by simpa [zs64] using hg) (Kp.refl _ _)
  · have hbl : (bcs kb).length = kb.length := bcs_length kb
    have hmin : (bcs kb).length = Nat.min kb.length 64 := by rw [hbl]; exact (Nat.min_eq_left hlen).symm
    have hz : (bcs zs64).length = 64 := by rw [bcs_length]; rfl
    refine wpList_copy_own hgd d s 26 26 ho 5 Tryz.underlying26 u8_size g 0 64 64 ⟨b, off, none⟩ kb.length c hd hs (bcs zs64).toArray 201 hg (bcs kb) hmin ?_ (by simp [hz, hbl, hlen]) (bcs_one kb) ?_
    · intro j u hu
      obtain ⟨hj, rfl⟩ := bcs_get kb j u hu
      rw [Addr.add_lit]
      exact hk j hj
    · rw [hbl]
      refine h _ ?_ (Kp.setRow _ _ _)
      rw [setRow_heap _ _ _ _ _ _ hg]
      have e : ((bcs zs64).toArray.toList.take 0 ++ (bcs kb ++ (bcs zs64).toArray.toList.drop (0 + kb.length))) = bcs (kb ++ List.replicate (64 - kb.length) 0) := by
        have hx : ∀ n, bcs (List.replicate n 0) = List.replicate n (bv 0) := fun n => by unfold bcs; rw [List.map_replicate]
        rw [bcs_append, hx, show bcs zs64 = List.replicate 64 (bv 0) from hx 64, List.take_zero, List.nil_append, Nat.zero_add, List.drop_replicate]
      rw [e]

theorem step_append_grows' {ops : Array Oper} {o : Oper} {a : Act} {w : World} {K : Act → World → Prop} {Q : Exit → Act → World → Prop} {E : Prop} (hgd : o.guard = none) (s x : Operand)
    (ho : o.op = .call { callee := .builtin .append, args := #[s, x], argTypes := #[26, 26] })
    (ao : Addr) (n : Nat) (olds : Bytes) (hs : a.eval s = .slice (some ao) olds.length n) (holds : ∀ j u, (bcs olds)[j]? = some u → w.cell? (ao.add j) = some u)
    (ad : Addr) (c : Nat) (news : Bytes) (hx : a.eval x = .slice (some ad) news.length c) (hc : ∀ j u, (bcs news)[j]? = some u → w.cell? (ad.add j) = some u)
    (hfull : n < olds.length + news.length) (b2 : olds.length + news.length ≤ 140737488355328)
    (h : ∀ v' w', OwB w' w.heap.size v' (olds ++ news) → w.grownBy w' none → K (a.put o.dst v') w') :
    if Region.wanted o (yielded ops a.tmps) = true then Oper.wp Tryz.prog o a w K Q else E := by
  have hw : Region.wanted o (yielded ops a.tmps) = true := by simp [Region.wanted, hgd]
  rw [if_pos hw]
  obtain ⟨i0, hi, hz0, hz1, hz2⟩ := info_parts info_u8
  obtain ⟨v', w', hrun, r1, r2⟩ := run_append_arg_grows (P := Tryz.prog) w 26 o.type 5 i0 (.int .u8 0) 1 1 Tryz.underlying26 hi hz0 hz1 hz2 rfl (by decide) ao olds.length n (bcs olds) (by rw [bcs_length]; omega) holds ad news.length c (bcs news) (by rw [bcs_length]; omega) hc hfull (by unfold maxLen; omega) (by omega)
  unfold Oper.wp
  simp [execOp, ho, resolve, invoke, builtin, hs, hx, hrun, Result.andThen]
  exact h v' w' (OwB.of_app r1 rfl) r2

theorem wpList_append_grows' {ops : Array Oper} {rest : List Oper} {o : Oper} {a : Act} {w : World} {Q : Exit → Act → World → Prop} (hgd : o.guard = none) (s x : Operand)
    (ho : o.op = .call { callee := .builtin .append, args := #[s, x], argTypes := #[26, 26] })
    (ao : Addr) (n : Nat) (olds : Bytes) (hs : a.eval s = .slice (some ao) olds.length n) (holds : ∀ j u, (bcs olds)[j]? = some u → w.cell? (ao.add j) = some u)
    (ad : Addr) (c : Nat) (news : Bytes) (hx : a.eval x = .slice (some ad) news.length c) (hc : ∀ j u, (bcs news)[j]? = some u → w.cell? (ad.add j) = some u)
    (hfull : n < olds.length + news.length) (b2 : olds.length + news.length ≤ 140737488355328)
    (h : ∀ v' w', OwB w' w.heap.size v' (olds ++ news) → w.grownBy w' none → wpList Tryz.prog ops Q rest (a.put o.dst v') w') : wpList Tryz.prog ops Q (o :: rest) a w := by
  obtain ⟨i0, hi, hz0, hz1, hz2⟩ := info_parts info_u8
  exact wpList_append_grows w hgd s x 26 ho 5 i0 (.int .u8 0) 1 1 Tryz.underlying26 hi hz0 hz1 hz2 rfl (by decide) (some ao) olds.length n (bcs olds) hs (by simp) (by rw [bcs_length]; omega) (fun b hb => by cases hb; exact holds)
    ad news.length c (bcs news) hx (by rw [bcs_length]; omega) hc (bcs_one news) hfull (by unfold maxLen; omega) (by omega) fun v' w' h1 h2 => h v' w' (OwB.of_app h1 rfl) h2

theorem step_store_row {ops : Array Oper} {o : Oper} {a : Act} {w : World} {K : Act → World → Prop} {Q : Exit → Act → World → Prop} {E : Prop} (hgd : o.guard = none) (ty : TypeId) (x y : Operand) (ho : o.op = .store ty x y)
    (g : Nat) (cells : Array Value) (hx : a.eval x = .pointer (some ⟨g, 0, none⟩)) (hy : a.eval y = .agg cells)
    (t : TypeId) (old : Array Value) (hg : w.heap[g]? = some (.cells old t (0, 0))) (hi : (Tryz.prog.info? ty).map (·.size) = some cells.size)
    (hold : old.size = cells.size) (h1 : cells.all (·.oneCell') = true)
    (h : K (a.put o.dst undef) (w.setRow g cells)) : if Region.wanted o (yielded ops a.tmps) = true then Oper.wp Tryz.prog o a w K Q else E := by
  have hw : Region.wanted o (yielded ops a.tmps) = true := by simp [Region.wanted, hgd]
  rw [if_pos hw]
  exact wp_store_row ty x y ho g cells hx hy t old hg hi hold h1 h

/-- the first so many bytes are turned -/
def xorP (K : Bytes) (x : UInt8) (j : Nat) : Bytes := (K.take j).map (· ^^^ x) ++ K.drop j
theorem xorP_length (K : Bytes) (x : UInt8) (j : Nat) : (xorP K x j).length = K.length := by simp [xorP]; omega
theorem xorP_get (K : Bytes) (x : UInt8) (j : Nat) (hj : j < K.length) : (xorP K x j)[j]? = some (K.getD j 0) := by
  rw [xorP, List.getElem?_append_right (by simp; omega)]
  simp [List.getD_eq_getElem?_getD, hj]; rw [Nat.min_eq_left (by omega)]; simp [hj]
theorem xorP_step (K : Bytes) (x : UInt8) (j : Nat) (hj : j < K.length) : (bcs (xorP K x j)).toArray.setIfInBounds j (.int .u8 ((K.getD j 0 ^^^ x).toNat : Int)) = (bcs (xorP K x (j + 1))).toArray := by
  have h1 : (bcs ((K.take j).map (· ^^^ x))).length = j := by rw [bcs_length, List.length_map, List.length_take]; omega
  rw [List.setIfInBounds_toArray]
  congr 1
  unfold xorP
  rw [bcs_append, List.drop_eq_getElem_cons hj, List.set_append, if_neg (by omega), h1, Nat.sub_self]
  rw [List.take_succ_eq_append_getElem hj, List.map_append, bcs_append, bcs_append, List.append_assoc]
  congr 1
  show (bv K[j] :: bcs (K.drop (j + 1))).set 0 _ = bcs [K[j] ^^^ x] ++ bcs (K.drop (j + 1))
  rw [List.set_cons_zero, List.getD_eq_getElem?_getD, List.getElem?_eq_getElem hj]
  rfl
theorem xorP_full (K : Bytes) (x : UInt8) (j : Nat) (hj : K.length ≤ j) : xorP K x j = K.map (· ^^^ x) := by
  rw [xorP, List.take_of_length_le hj, List.drop_eq_nil_of_le hj, List.append_nil]
theorem xorP_zero (K : Bytes) (x : UInt8) : xorP K x 0 = K := by simp [xorP]
theorem xor_cell (c x : UInt8) : bits BinOp.xor IntKind.u8 (c.toNat : Int) (x.toNat : Int) = ((c ^^^ x).toNat : Int) := by
  rw [u8_xor_nat _ _ c.toNat_lt x.toNat_lt, UInt8.toNat_xor]

theorem heap_kp0 {F : Nat → Prop} {w w' : World} {b : Nat} {o : Obj} (h : w.heap[b]? = some o) (k : Kp F w w') (hF : ¬ F b) : w'.heap[b]? = some o := by
  rw [k.block _ (lt_of_heap h) hF]; exact h
/-- what a tag's rounds keep -/
structure TW (w wr : World) (a b : Bytes) : Prop where
  bel : Below w.heap.size w wr
  rs : wr.heap[w.heap.size]? = some (.cells z20 120 (0, 0))
  ia : wr.heap[w.heap.size + 1]? = some (.cells (bcs a).toArray 201 (0, 0))
  oa : wr.heap[w.heap.size + 1 + 1]? = some (.cells (bcs b).toArray 201 (0, 0))
theorem TW.below {w wr wt : World} {a b : Bytes} (x : TW w wr a b) (k : Below wr.heap.size wr wt) : TW w wt a b :=
  ⟨x.bel.trans (k.mono x.bel.size), heap_below x.rs k, heap_below x.ia k, heap_below x.oa k⟩
theorem TW.inn {w wr wt : World} {a a' b : Bytes} (x : TW w wr a b) (k : Kp (· = w.heap.size + 1) wr wt) (h : wt.heap[w.heap.size + 1]? = some (.cells (bcs a').toArray 201 (0, 0))) : TW w wt a' b :=
  ⟨⟨k.os.trans x.bel.os, k.tape.trans x.bel.tape, k.output.trans x.bel.output, Nat.le_trans x.bel.size k.size, fun i hi => (k.block i (Nat.lt_of_lt_of_le hi x.bel.size) (by show i ≠ _; omega)).trans (x.bel.block i hi)⟩,
    heap_kp0 x.rs k (by show _ ≠ _; omega), h, heap_kp0 x.oa k (by show _ ≠ _; omega)⟩
theorem TW.outt {w wr wt : World} {a b b' : Bytes} (x : TW w wr a b) (k : Kp (· = w.heap.size + 1 + 1) wr wt) (h : wt.heap[w.heap.size + 1 + 1]? = some (.cells (bcs b').toArray 201 (0, 0))) : TW w wt a b' :=
  ⟨⟨k.os.trans x.bel.os, k.tape.trans x.bel.tape, k.output.trans x.bel.output, Nat.le_trans x.bel.size k.size, fun i hi => (k.block i (Nat.lt_of_lt_of_le hi x.bel.size) (by show i ≠ _; omega)).trans (x.bel.block i hi)⟩,
    heap_kp0 x.rs k (by show _ ≠ _; omega), heap_kp0 x.ia k (by show _ ≠ _; omega), h⟩
theorem arr_cells {W : World} {g : Nat} {l : Bytes} {t : TypeId} {fz : Nat × Nat} (h : W.heap[g]? = some (.cells (bcs l).toArray t fz)) : ∀ j u, (bcs l)[j]? = some u → W.cell? ((⟨g, 0, none⟩ : Addr).add j) = some u := by
  intro j u hu
  rw [Addr.add_lit, World.cell?]
  simp only [h, Nat.zero_add]
  simpa using hu
theorem arr_rd {W : World} {g : Nat} {l : Bytes} {t : TypeId} {fz : Nat × Nat} (h : W.heap[g]? = some (.cells (bcs l).toArray t fz)) : RdB W (some ⟨g, 0, none⟩) l := by
  refine .inr ⟨g, 0, rfl, fun i hi => ?_⟩
  rw [World.cell?]; simp only [h, Nat.zero_add]
  simp [bcs, bv, hi]


set_option maxRecDepth 100000 in
set_option maxHeartbeats 4000000 in
theorem tag_ok (w : World) (A B : Option Addr) (c d : Nat) (k l : Bytes) (hk : RdB w A k) (hl : RdB w B l) (hkn : k.length ≤ 140737488355100) (hln : l.length ≤ 140737488355000) (hl1 : 1 ≤ l.length) (hc : k.length ≤ c) (hcm : c ≤ maxLen) :
    Calls Tryz.prog 79 #[.slice A k.length c, .slice B l.length d] w fun e w' => e = .returned (.agg (bcs (tagB k l)).toArray) ∧ Below w.heap.size w w' := by
  obtain ⟨bl, bo, rfl, _⟩ : ∃ bl bo, B = some ⟨bl, bo, none⟩ ∧ True := by
    rcases hl with h0 | ⟨b, o, hB, _⟩
    · rw [h0] at hl1; simp at hl1
    · exact ⟨b, o, hB, trivial⟩
  have z64e : ∀ n, (List.replicate n (0 : UInt8)).length = n := fun n => List.length_replicate
  have T0 : TW w (((w.alloc (.cells z20 120)).alloc (.cells (bcs zs64).toArray 201)).alloc (.cells (bcs zs64).toArray 201)) zs64 zs64 := by
    refine ⟨(((Below.refl _ _).alloc (by simp) _).alloc (by simp) _).alloc (by simp; omega) _, ?_, ?_, ?_⟩
    · simp only [heap_alloc_push, Array.getElem?_push, Array.size_push]; repeat (first | rw [if_pos trivial] | rw [if_neg (by omega)] | rw [if_pos (by omega)])
    · simp only [heap_alloc_push, Array.getElem?_push, Array.size_push]; repeat (first | rw [if_pos trivial] | rw [if_neg (by omega)] | rw [if_pos (by omega)])
    · simp only [heap_alloc_push, Array.getElem?_push, Array.size_push]; repeat (first | rw [if_pos trivial] | rw [if_neg (by omega)] | rw [if_pos (by omega)])
  have e20 : z20 = #[.int .u8 0, .int .u8 0, .int .u8 0, .int .u8 0, .int .u8 0, .int .u8 0, .int .u8 0, .int .u8 0, .int .u8 0, .int .u8 0, .int .u8 0, .int .u8 0, .int .u8 0, .int .u8 0, .int .u8 0, .int .u8 0, .int .u8 0, .int .u8 0, .int .u8 0, .int .u8 0] := rfl
  have e64 : (bcs zs64).toArray = #[.int .u8 0, .int .u8 0, .int .u8 0, .int .u8 0, .int .u8 0, .int .u8 0, .int .u8 0, .int .u8 0, .int .u8 0, .int .u8 0, .int .u8 0, .int .u8 0, .int .u8 0, .int .u8 0, .int .u8 0, .int .u8 0, .int .u8 0, .int .u8 0, .int .u8 0, .int .u8 0, .int .u8 0, .int .u8 0, .int .u8 0, .int .u8 0, .int .u8 0, .int .u8 0, .int .u8 0, .int .u8 0, .int .u8 0, .int .u8 0, .int .u8 0, .int .u8 0, .int .u8 0, .int .u8 0, .int .u8 0, .int .u8 0, .int .u8 0, .int .u8 0, .int .u8 0, .int .u8 0, .int .u8 0, .int .u8 0, .int .u8 0, .int .u8 0, .int .u8 0, .int .u8 0, .int .u8 0, .int .u8 0, .int .u8 0, .int .u8 0, .int .u8 0, .int .u8 0, .int .u8 0, .int .u8 0, .int .u8 0, .int .u8 0, .int .u8 0, .int .u8 0, .int .u8 0, .int .u8 0, .int .u8 0, .int .u8 0, .int .u8 0, .int .u8 0] := rfl
  rw [e20, e64] at T0
  have E20 := Lib.hid e20; have E64 := Lib.hid e64
  clear e20 e64
  have T0 := Lib.hid T0; have HK := Lib.hid hk; have HL := Lib.hid hl
  clear hk hl z64e
  by_cases h64 : 64 < k.length
  · go_enter Tryz.func79, Tryz.ntmps79
    go_wp2_with fail
    have cD := digest_ok _ A c k (HK.out.below T0.out.bel) hkn hc hcm
    refine cD.mono ?_
    rintro e w3 ⟨rfl, hb3⟩
    have T3 := T0.out.below hb3
    have T3s : w.heap.size + 1 + 1 < w3.heap.size := lt_of_heap T3.oa
    have hsl := sha_length k
    have hbl : (bcs (sha k)).toArray.size = 20 := by rw [List.size_toArray, bcs_length, hsl]
    have hi20 : (Tryz.prog.info? 120).map (·.size) = some (bcs (sha k)).toArray.size := by rw [hbl]; kernel_rfl
    have hall : (bcs (sha k)).toArray.all (·.oneCell') = true := by rw [List.all_toArray, List.all_eq_true]; exact bcs_one _
    have hz20 : z20.size = (bcs (sha k)).toArray.size := by rw [hbl]; rfl
    have hn3 : (w3.alloc (.cells z20 120)).heap[w3.heap.size]? = some (.cells z20 120 (0, 0)) := heap_alloc_new w3 _
    have hF3 := setRow_heap (w3.alloc (.cells z20 120)) w3.heap.size _ (bcs (sha k)).toArray _ _ hn3
    have hb4 : Below w3.heap.size w3 ((w3.alloc (.cells z20 120)).setRow w3.heap.size (bcs (sha k)).toArray) := below_setRow ((Below.refl _ _).alloc (Nat.le_refl _) _) (Nat.le_refl _) _
    have T4 := T3.below hb4
    have HF := Lib.hid hF3; have HN := Lib.hid hn3
    rw [E20.out] at T4
    have T4 := Lib.hid T4
    clear hF3 hb4 T3 hb3 cD hn3 T0
    have hn3 := HN.out
    dsimp only
    have Hkey := Lib.hid (show keyB k = sha k ++ List.replicate (64 - (sha k).length) 0 from by unfold keyB; simp [h64])
    have hkl : (sha k).length ≤ 64 := by rw [sha_length]; omega
    have hA0 : (sha k) = [] ∨ ∀ a, (some (Addr.mk w3.heap.size 0 none)) = some a → a.block ≠ w.heap.size + 1 ∧ a.block ≠ w.heap.size + 1 + 1 := .inr (by have := T3s; intro a ha; cases ha; exact ⟨by show w3.heap.size ≠ _; omega, by show w3.heap.size ≠ _; omega⟩)
    have RK := arr_rd (E20.out ▸ HF.out)
    have HA0 := Lib.hid hA0
    have ia4 := T4.out.ia
    have RKH := Lib.hid RK
    clear hA0
    go_wp2_with first | (refine wpList_store_row rfl 120 _ _ rfl w3.heap.size (bcs (sha k)).toArray rfl rfl 120 z20 hn3 hi20 hz20 hall ?_) | (refine wpList_copy64 rfl (.tmp 16) (.tmp 17) rfl (w.heap.size + 1) (some (Addr.mk w3.heap.size 0 none)) 20 (sha k) rfl (by rw [sha_length]; rfl) ia4 RK hkl ?_; intro w5 hh5 hk5; rw [← Hkey.out] at hh5; have T5 := T4.out.inn hk5 hh5; have RK5 : RdB w5 (some (Addr.mk w3.heap.size 0 none)) (sha k) := HA0.out.elim .inl (fun h0 => RKH.out.keep hk5 (fun a ha => (h0 a ha).1)); have oa5 := T5.oa; have T5 := Lib.hid T5; clear ia4 RK hh5 hk5) | (refine wpList_copy64 rfl (.tmp 19) (.tmp 20) rfl (w.heap.size + 1 + 1) (some (Addr.mk w3.heap.size 0 none)) 20 (sha k) rfl (by rw [sha_length]; rfl) oa5 RK5 hkl ?_; intro w6 hh6 hk6; rw [← Hkey.out] at hh6; have T6 := T5.out.outt hk6 hh6; have T6 := Lib.hid T6; clear oa5 RK5 hh6 hk6) | fail
    have hKl := keyB_length k
    have HKl := Lib.hid hKl
    clear hKl
    go_loopw [22] (fun i wr => ∃ j : Nat, j ≤ 64 ∧ i = .int .i64 j ∧ TW w wr (xorP (keyB k) 54 j) (xorP (keyB k) 92 j)) (fun i _ => 64 - (intOf i).toNat)
    case atStart => exact ⟨0, by omega, rfl, by rw [xorP_zero, xorP_zero]; exact T6.out⟩
    case round =>
      obtain ⟨j, hj, rfl, hT⟩ := hrel
      clear T6
      by_cases hj64 : j < 64
      · have hjl : j < (keyB k).length := by rw [HKl.out]; exact hj64
        have i1 : wr.cell? ⟨w.heap.size + 1, j, none⟩ = some (.int .u8 (((keyB k).getD j 0).toNat : Int)) := by
          rw [World.cell?]; simp only [hT.ia]; simp [bcs, bv, xorP_get _ _ _ hjl]
        have i2 : wr.cell? ⟨w.heap.size + 1 + 1, j, none⟩ = some (.int .u8 (((keyB k).getD j 0).toNat : Int)) := by
          rw [World.cell?]; simp only [hT.oa]; simp [bcs, bv, xorP_get _ _ _ hjl]
        have f1 : wr.frozen? ⟨w.heap.size + 1, j, none⟩ = false := by simp [World.frozen?, hT.ia]
        have f2 : wr.frozen? ⟨w.heap.size + 1 + 1, j, none⟩ = false := by simp [World.frozen?, hT.oa]
        have x1 : bits BinOp.xor IntKind.u8 (((keyB k).getD j 0).toNat : Int) 54 = (((keyB k).getD j 0 ^^^ 54).toNat : Int) := xor_cell _ 54
        have x2 : bits BinOp.xor IntKind.u8 (((keyB k).getD j 0).toNat : Int) 92 = (((keyB k).getD j 0 ^^^ 92).toNat : Int) := xor_cell _ 92
        have y1 := row_set j (.int .u8 (((keyB k).getD j 0 ^^^ 54).toNat : Int)) hT.ia
        rw [xorP_step _ _ _ hjl] at y1
        have T7 := hT.inn ((Kp.refl (· = w.heap.size + 1) wr).setCell j (.int .u8 (((keyB k).getD j 0 ^^^ 54).toNat : Int)) rfl) y1
        have y2 := row_set j (.int .u8 (((keyB k).getD j 0 ^^^ 92).toNat : Int)) T7.oa
        rw [xorP_step _ _ _ hjl] at y2
        have T8 := T7.outt ((Kp.refl (· = w.heap.size + 1 + 1) _).setCell j (.int .u8 (((keyB k).getD j 0 ^^^ 92).toNat : Int)) rfl) y2
        have T8 := Lib.hid T8
        generalize (keyB k).getD j 0 ^^^ 54 = e1 at *
        generalize (keyB k).getD j 0 ^^^ 92 = e2 at *
        generalize (keyB k).getD j 0 = e0 at *
        clear y1 y2 T7 hT
        go_wp2
        exact ⟨⟨j + 1, by omega, by go_num, T8.out⟩, by simp [intOf]; omega⟩
      · obtain rfl : j = 64 := by omega
        rw [xorP_full _ _ _ (by rw [HKl.out]; exact Nat.le_refl _), xorP_full _ _ _ (by rw [HKl.out]; exact Nat.le_refl _)] at hT
        have hil : (inB k).length = 64 := by rw [inB, List.length_map, HKl.out]
        have hol : (exB k).length = 64 := by rw [exB, List.length_map, HKl.out]
        have hT' : TW w wr (inB k) (exB k) := hT
        obtain ⟨b', o', hB, hlc⟩ : ∃ b o, some (Addr.mk bl bo none) = some ⟨b, o, none⟩ ∧ ∀ i, i < l.length → wr.cell? ⟨b, o + i, none⟩ = some (.int .u8 ((l[i]?.getD 0).toNat : Int)) := by
          rcases HL.out.below hT.bel with h0 | h0
          · rw [h0] at hl1; simp at hl1
          · exact h0
        cases hB
        have hcs : ∀ j u, (bcs l)[j]? = some u → wr.cell? ((⟨bl, bo, none⟩ : Addr).add j) = some u := by
          intro j u hu
          obtain ⟨hj, rfl⟩ := bcs_get l j u hu
          rw [Addr.add_lit]
          exact hlc j hj
        have hos := arr_cells hT'.ia
        have hT8 := Lib.hid hT'
        have hIL := Lib.hid hil; have hOL := Lib.hid hol
        have hfull : 64 < (inB k).length + l.length := by omega
        have hmax : (inB k).length + l.length ≤ 140737488355328 := by omega
        clear hT hT' hlc hil hol
        go_wp2_with (at_builtin; refine wpList_append_grows' rfl (.tmp 36) (.tmp 37) rfl ⟨w.heap.size + 1, 0, none⟩ 64 (inB k) (by rw [hIL.out]; rfl) hos ⟨bl, bo, none⟩ d l rfl hcs hfull hmax ?_)
        intro v9 w9 ow9 hg9
        obtain ⟨q9, hq9⟩ : ∃ q, q = inB k ++ l := ⟨_, rfl⟩
        rw [← hq9] at ow9
        have hq9l : q9.length ≤ 140737488355100 := by rw [hq9, List.length_append, hIL.out]; omega
        have HQ9 := Lib.hid hq9
        clear hq9
        obtain ⟨A9, c9, rfl, hc9, hm9, hr9, _⟩ := ow9.slice
        have hbW : Below wr.heap.size wr w9 := (Below.refl _ _).grown hg9 (Nat.le_refl _) (fun k hk => by cases hk)
        have T9 := hT8.out.below hbW
        have cD9 := digest_ok w9 A9 c9 q9 hr9 hq9l hc9 hm9
        have T9 := Lib.hid T9; have CD9 := Lib.hid cD9
        clear ow9 hg9 hbW cD9 hos hcs
        go_wp2_with fail
        refine CD9.out.mono ?_
        rintro e wA ⟨rfl, hbA⟩
        have TA := T9.out.below hbA
        have hsA := sha_length q9
        have hbA1 : (bcs (sha q9)).toArray.size = 20 := by rw [List.size_toArray, bcs_length, hsA]
        have hiA : (Tryz.prog.info? 120).map (·.size) = some (bcs (sha q9)).toArray.size := by rw [hbA1]; kernel_rfl
        have hallA : (bcs (sha q9)).toArray.all (·.oneCell') = true := by rw [List.all_toArray, List.all_eq_true]; exact bcs_one _
        have hzA : z20.size = (bcs (sha q9)).toArray.size := by rw [hbA1]; rfl
        have hnA : (wA.alloc (.cells z20 120)).heap[wA.heap.size]? = some (.cells z20 120 (0, 0)) := heap_alloc_new wA _
        have hFA := setRow_heap (wA.alloc (.cells z20 120)) wA.heap.size _ (bcs (sha q9)).toArray _ _ hnA
        have hbB : Below wA.heap.size wA ((wA.alloc (.cells z20 120)).setRow wA.heap.size (bcs (sha q9)).toArray) := below_setRow ((Below.refl _ _).alloc (Nat.le_refl _) _) (Nat.le_refl _) _
        have TB := TA.below hbB
        have HFA := Lib.hid hFA; have TB := Lib.hid TB; have HSA := Lib.hid hsA
        clear hFA hbB TA hbA hsA
        dsimp only
        go_wp2_with (refine wpList_store_row rfl 120 _ _ rfl wA.heap.size (bcs (sha q9)).toArray rfl rfl 120 z20 hnA hiA hzA hallA ?_)
        obtain ⟨WB, hWB⟩ : ∃ W, W = (wA.alloc (.cells z20 120)).setRow wA.heap.size (bcs (sha q9)).toArray := ⟨_, rfl⟩
        rw [← hWB] at HFA TB
        show Code.wp _ _ _ _ ((wA.alloc (.cells z20 120)).setRow wA.heap.size (bcs (sha q9)).toArray)
        rw [← hWB]
        clear hWB
        have hosC := arr_cells TB.out.oa
        have hcsC := arr_cells HFA.out
        have hfullC : 64 < (exB k).length + (sha q9).length := by rw [hOL.out, HSA.out]; omega
        have hmaxC : (exB k).length + (sha q9).length ≤ 140737488355328 := by rw [hOL.out, HSA.out]; omega
        refine wp_region_J (by kernel_rfl) (fun _ => True) 4 ?_
        have hS : (fun _ : World => True) WB.drew := trivial
        refine wpAnyJ_ptake 0 (v := ?_) rfl (by kernel_rfl) (by kernel_rfl) (by kernel_rfl) (by decide) (fun _ _ _ h => h) (.inl ⟨rfl, fun w' => ?_⟩) hS ?_; rotate_left 1; focus (go_simp; (try rfl))
        refine wpAnyJ_ptake 1 (v := ?_) rfl (by kernel_rfl) (by kernel_rfl) (by kernel_rfl) (by decide) (fun _ _ _ h => h) (.inl ⟨rfl, fun w' => ?_⟩) hS ?_; rotate_left 1; focus (go_simp; (try rfl))
        refine wpAnyJ_one 2 (by kernel_rfl) (wpOp_step rfl (fun K hK => ?_))
        refine step_append_grows' rfl (.tmp 40) (.tmp 41) rfl ⟨w.heap.size + 1 + 1, 0, none⟩ 64 (exB k) (by rw [hOL.out]; rfl) hosC ⟨wA.heap.size, 0, none⟩ 20 (sha q9) (by rw [HSA.out]; rfl) hcsC hfullC hmaxC ?_
        intro vC wC owC hgC
        obtain ⟨qC, hqC⟩ : ∃ q, q = exB k ++ sha q9 := ⟨_, rfl⟩
        rw [← hqC] at owC
        have hqCl : qC.length ≤ 140737488355100 := by rw [hqC, List.length_append, hOL.out, HSA.out]; omega
        have HQC := Lib.hid hqC
        clear hqC
        obtain ⟨AC, cC, rfl, hcC, hmC, hrC, _⟩ := owC.slice
        have hbC : Below WB.heap.size WB wC := (Below.refl _ _).drew.trans ((Below.refl _ _).grown hgC (Nat.le_refl _) (fun k hk => by cases hk))
        have TC := TB.out.below hbC
        have cDC := digest_ok wC AC cC qC hrC hqCl hcC hmC
        have TC := Lib.hid TC; have CDC := Lib.hid cDC
        refine hK _ _ ⟨fun _ => ⟨trivial, ?_⟩, fun h => absurd h (by decide)⟩
        clear hK K owC hgC hbC cDC hosC hcsC
        refine wpAnyJ_one 3 (by kernel_rfl) (wpOp_step rfl (fun K hK => ?_)); go_simp
        refine CDC.out.mono ?_
        rintro e wD ⟨rfl, hbD⟩
        have TD := TC.out.below hbD
        have hsD := sha_length qC
        have hbD1 : (bcs (sha qC)).toArray.size = 20 := by rw [List.size_toArray, bcs_length, hsD]
        have hiD : (Tryz.prog.info? 120).map (·.size) = some (bcs (sha qC)).toArray.size := by rw [hbD1]; kernel_rfl
        have hallD : (bcs (sha qC)).toArray.all (·.oneCell') = true := by rw [List.all_toArray, List.all_eq_true]; exact bcs_one _
        have hzD : z20.size = (bcs (sha qC)).toArray.size := by rw [hbD1]; rfl
        refine hK _ _ ⟨fun _ => ⟨trivial, ?_⟩, fun h => absurd h (by decide)⟩
        clear hK K
        refine wpAnyJ_one 4 (by kernel_rfl) (wpOp_step rfl (fun K hK => ?_))
        refine step_store_row rfl 120 _ _ rfl w.heap.size (bcs (sha qC)).toArray rfl rfl 120 z20 TD.rs hiD hzD hallD ?_
        refine hK _ _ ⟨fun h => absurd rfl h, fun _ => ?_⟩
        clear hK K
        refine wpAny_done' (by kernel_rfl) ?_ _
        have hfin := setRow_heap wD w.heap.size _ (bcs (sha qC)).toArray _ _ TD.rs
        have HF9 := Lib.hid hfin
        have HTD := Lib.hid TD
        clear hfin TD hbD hsD hbD1
        go_simp
        go_wp2
        exact bodyPost_ret (v := .agg (bcs (sha qC)).toArray) (results_cell_row (p := 4) (ty := 120) rfl _ _ w.heap.size 120 _ (0, 0) _ rfl HF9.out Tryz.underlying120 rfl hiD) rfl ⟨by rw [HQC.out, HQ9.out]; rfl, below_setRow HTD.out.bel (Nat.le_refl _) _⟩
  · go_enter Tryz.func79, Tryz.ntmps79
    have Hkey := Lib.hid (show keyB k = k ++ List.replicate (64 - (k).length) 0 from by unfold keyB; simp [h64])
    have hkl : (k).length ≤ 64 := by omega
    have hA0 : (k) = [] ∨ ∀ a, A = some a → a.block ≠ w.heap.size + 1 ∧ a.block ≠ w.heap.size + 1 + 1 := by
      rcases HK.out with h0 | ⟨b, o, rfl, h0⟩
      · exact .inl h0
      · rcases k with _ | ⟨x, k'⟩
        · exact .inl rfl
        · have := lt_of_cell (h0 0 (by simp))
          exact .inr (by intro a ha; cases ha; exact ⟨by show b ≠ _; simp at this; omega, by show b ≠ _; simp at this; omega⟩)
    have RK := HK.out.below T0.out.bel
    have HA0 := Lib.hid hA0
    have ia4 := T0.out.ia
    have RKH := Lib.hid RK
    clear hA0
    go_wp2_with first | (refine wpList_copy64 rfl (.tmp 16) (.tmp 17) rfl (w.heap.size + 1) A c (k) rfl rfl ia4 RK hkl ?_; intro w5 hh5 hk5; rw [← Hkey.out] at hh5; have T5 := T0.out.inn hk5 hh5; have RK5 : RdB w5 A (k) := HA0.out.elim .inl (fun h0 => RKH.out.keep hk5 (fun a ha => (h0 a ha).1)); have oa5 := T5.oa; have T5 := Lib.hid T5; clear ia4 RK hh5 hk5) | (refine wpList_copy64 rfl (.tmp 19) (.tmp 20) rfl (w.heap.size + 1 + 1) A c (k) rfl rfl oa5 RK5 hkl ?_; intro w6 hh6 hk6; rw [← Hkey.out] at hh6; have T6 := T5.out.outt hk6 hh6; have T6 := Lib.hid T6; clear oa5 RK5 hh6 hk6) | fail
    have hKl := keyB_length k
    have HKl := Lib.hid hKl
    clear hKl
    go_loopw [22] (fun i wr => ∃ j : Nat, j ≤ 64 ∧ i = .int .i64 j ∧ TW w wr (xorP (keyB k) 54 j) (xorP (keyB k) 92 j)) (fun i _ => 64 - (intOf i).toNat)
    case atStart => exact ⟨0, by omega, rfl, by rw [xorP_zero, xorP_zero]; exact T6.out⟩
    case round =>
      obtain ⟨j, hj, rfl, hT⟩ := hrel
      clear T6
      by_cases hj64 : j < 64
      · have hjl : j < (keyB k).length := by rw [HKl.out]; exact hj64
        have i1 : wr.cell? ⟨w.heap.size + 1, j, none⟩ = some (.int .u8 (((keyB k).getD j 0).toNat : Int)) := by
          rw [World.cell?]; simp only [hT.ia]; simp [bcs, bv, xorP_get _ _ _ hjl]
        have i2 : wr.cell? ⟨w.heap.size + 1 + 1, j, none⟩ = some (.int .u8 (((keyB k).getD j 0).toNat : Int)) := by
          rw [World.cell?]; simp only [hT.oa]; simp [bcs, bv, xorP_get _ _ _ hjl]
        have f1 : wr.frozen? ⟨w.heap.size + 1, j, none⟩ = false := by simp [World.frozen?, hT.ia]
        have f2 : wr.frozen? ⟨w.heap.size + 1 + 1, j, none⟩ = false := by simp [World.frozen?, hT.oa]
        have x1 : bits BinOp.xor IntKind.u8 (((keyB k).getD j 0).toNat : Int) 54 = (((keyB k).getD j 0 ^^^ 54).toNat : Int) := xor_cell _ 54
        have x2 : bits BinOp.xor IntKind.u8 (((keyB k).getD j 0).toNat : Int) 92 = (((keyB k).getD j 0 ^^^ 92).toNat : Int) := xor_cell _ 92
        have y1 := row_set j (.int .u8 (((keyB k).getD j 0 ^^^ 54).toNat : Int)) hT.ia
        rw [xorP_step _ _ _ hjl] at y1
        have T7 := hT.inn ((Kp.refl (· = w.heap.size + 1) wr).setCell j (.int .u8 (((keyB k).getD j 0 ^^^ 54).toNat : Int)) rfl) y1
        have y2 := row_set j (.int .u8 (((keyB k).getD j 0 ^^^ 92).toNat : Int)) T7.oa
        rw [xorP_step _ _ _ hjl] at y2
        have T8 := T7.outt ((Kp.refl (· = w.heap.size + 1 + 1) _).setCell j (.int .u8 (((keyB k).getD j 0 ^^^ 92).toNat : Int)) rfl) y2
        have T8 := Lib.hid T8
        generalize (keyB k).getD j 0 ^^^ 54 = e1 at *
        generalize (keyB k).getD j 0 ^^^ 92 = e2 at *
        generalize (keyB k).getD j 0 = e0 at *
        clear y1 y2 T7 hT
        go_wp2
        exact ⟨⟨j + 1, by omega, by go_num, T8.out⟩, by simp [intOf]; omega⟩
      · obtain rfl : j = 64 := by omega
        rw [xorP_full _ _ _ (by rw [HKl.out]; exact Nat.le_refl _), xorP_full _ _ _ (by rw [HKl.out]; exact Nat.le_refl _)] at hT
        have hil : (inB k).length = 64 := by rw [inB, List.length_map, HKl.out]
        have hol : (exB k).length = 64 := by rw [exB, List.length_map, HKl.out]
        have hT' : TW w wr (inB k) (exB k) := hT
        obtain ⟨b', o', hB, hlc⟩ : ∃ b o, some (Addr.mk bl bo none) = some ⟨b, o, none⟩ ∧ ∀ i, i < l.length → wr.cell? ⟨b, o + i, none⟩ = some (.int .u8 ((l[i]?.getD 0).toNat : Int)) := by
          rcases HL.out.below hT.bel with h0 | h0
          · rw [h0] at hl1; simp at hl1
          · exact h0
        cases hB
        have hcs : ∀ j u, (bcs l)[j]? = some u → wr.cell? ((⟨bl, bo, none⟩ : Addr).add j) = some u := by
          intro j u hu
          obtain ⟨hj, rfl⟩ := bcs_get l j u hu
          rw [Addr.add_lit]
          exact hlc j hj
        have hos := arr_cells hT'.ia
        have hT8 := Lib.hid hT'
        have hIL := Lib.hid hil; have hOL := Lib.hid hol
        have hfull : 64 < (inB k).length + l.length := by omega
        have hmax : (inB k).length + l.length ≤ 140737488355328 := by omega
        clear hT hT' hlc hil hol
        go_wp2_with (at_builtin; refine wpList_append_grows' rfl (.tmp 36) (.tmp 37) rfl ⟨w.heap.size + 1, 0, none⟩ 64 (inB k) (by rw [hIL.out]; rfl) hos ⟨bl, bo, none⟩ d l rfl hcs hfull hmax ?_)
        intro v9 w9 ow9 hg9
        obtain ⟨q9, hq9⟩ : ∃ q, q = inB k ++ l := ⟨_, rfl⟩
        rw [← hq9] at ow9
        have hq9l : q9.length ≤ 140737488355100 := by rw [hq9, List.length_append, hIL.out]; omega
        have HQ9 := Lib.hid hq9
        clear hq9
        obtain ⟨A9, c9, rfl, hc9, hm9, hr9, _⟩ := ow9.slice
        have hbW : Below wr.heap.size wr w9 := (Below.refl _ _).grown hg9 (Nat.le_refl _) (fun k hk => by cases hk)
        have T9 := hT8.out.below hbW
        have cD9 := digest_ok w9 A9 c9 q9 hr9 hq9l hc9 hm9
        have T9 := Lib.hid T9; have CD9 := Lib.hid cD9
        clear ow9 hg9 hbW cD9 hos hcs
        go_wp2_with fail
        refine CD9.out.mono ?_
        rintro e wA ⟨rfl, hbA⟩
        have TA := T9.out.below hbA
        have hsA := sha_length q9
        have hbA1 : (bcs (sha q9)).toArray.size = 20 := by rw [List.size_toArray, bcs_length, hsA]
        have hiA : (Tryz.prog.info? 120).map (·.size) = some (bcs (sha q9)).toArray.size := by rw [hbA1]; kernel_rfl
        have hallA : (bcs (sha q9)).toArray.all (·.oneCell') = true := by rw [List.all_toArray, List.all_eq_true]; exact bcs_one _
        have hzA : z20.size = (bcs (sha q9)).toArray.size := by rw [hbA1]; rfl
        have hnA : (wA.alloc (.cells z20 120)).heap[wA.heap.size]? = some (.cells z20 120 (0, 0)) := heap_alloc_new wA _
        have hFA := setRow_heap (wA.alloc (.cells z20 120)) wA.heap.size _ (bcs (sha q9)).toArray _ _ hnA
        have hbB : Below wA.heap.size wA ((wA.alloc (.cells z20 120)).setRow wA.heap.size (bcs (sha q9)).toArray) := below_setRow ((Below.refl _ _).alloc (Nat.le_refl _) _) (Nat.le_refl _) _
        have TB := TA.below hbB
        have HFA := Lib.hid hFA; have TB := Lib.hid TB; have HSA := Lib.hid hsA
        clear hFA hbB TA hbA hsA
        dsimp only
        go_wp2_with (refine wpList_store_row rfl 120 _ _ rfl wA.heap.size (bcs (sha q9)).toArray rfl rfl 120 z20 hnA hiA hzA hallA ?_)
        obtain ⟨WB, hWB⟩ : ∃ W, W = (wA.alloc (.cells z20 120)).setRow wA.heap.size (bcs (sha q9)).toArray := ⟨_, rfl⟩
        rw [← hWB] at HFA TB
        show Code.wp _ _ _ _ ((wA.alloc (.cells z20 120)).setRow wA.heap.size (bcs (sha q9)).toArray)
        rw [← hWB]
        clear hWB
        have hosC := arr_cells TB.out.oa
        have hcsC := arr_cells HFA.out
        have hfullC : 64 < (exB k).length + (sha q9).length := by rw [hOL.out, HSA.out]; omega
        have hmaxC : (exB k).length + (sha q9).length ≤ 140737488355328 := by rw [hOL.out, HSA.out]; omega
        refine wp_region_J (by kernel_rfl) (fun _ => True) 4 ?_
        have hS : (fun _ : World => True) WB.drew := trivial
        refine wpAnyJ_ptake 0 (v := ?_) rfl (by kernel_rfl) (by kernel_rfl) (by kernel_rfl) (by decide) (fun _ _ _ h => h) (.inl ⟨rfl, fun w' => ?_⟩) hS ?_; rotate_left 1; focus (go_simp; (try rfl))
        refine wpAnyJ_ptake 1 (v := ?_) rfl (by kernel_rfl) (by kernel_rfl) (by kernel_rfl) (by decide) (fun _ _ _ h => h) (.inl ⟨rfl, fun w' => ?_⟩) hS ?_; rotate_left 1; focus (go_simp; (try rfl))
        refine wpAnyJ_one 2 (by kernel_rfl) (wpOp_step rfl (fun K hK => ?_))
        refine step_append_grows' rfl (.tmp 40) (.tmp 41) rfl ⟨w.heap.size + 1 + 1, 0, none⟩ 64 (exB k) (by rw [hOL.out]; rfl) hosC ⟨wA.heap.size, 0, none⟩ 20 (sha q9) (by rw [HSA.out]; rfl) hcsC hfullC hmaxC ?_
        intro vC wC owC hgC
        obtain ⟨qC, hqC⟩ : ∃ q, q = exB k ++ sha q9 := ⟨_, rfl⟩
        rw [← hqC] at owC
        have hqCl : qC.length ≤ 140737488355100 := by rw [hqC, List.length_append, hOL.out, HSA.out]; omega
        have HQC := Lib.hid hqC
        clear hqC
        obtain ⟨AC, cC, rfl, hcC, hmC, hrC, _⟩ := owC.slice
        have hbC : Below WB.heap.size WB wC := (Below.refl _ _).drew.trans ((Below.refl _ _).grown hgC (Nat.le_refl _) (fun k hk => by cases hk))
        have TC := TB.out.below hbC
        have cDC := digest_ok wC AC cC qC hrC hqCl hcC hmC
        have TC := Lib.hid TC; have CDC := Lib.hid cDC
        refine hK _ _ ⟨fun _ => ⟨trivial, ?_⟩, fun h => absurd h (by decide)⟩
        clear hK K owC hgC hbC cDC hosC hcsC
        refine wpAnyJ_one 3 (by kernel_rfl) (wpOp_step rfl (fun K hK => ?_)); go_simp
        refine CDC.out.mono ?_
        rintro e wD ⟨rfl, hbD⟩
        have TD := TC.out.below hbD
        have hsD := sha_length qC
        have hbD1 : (bcs (sha qC)).toArray.size = 20 := by rw [List.size_toArray, bcs_length, hsD]
        have hiD : (Tryz.prog.info? 120).map (·.size) = some (bcs (sha qC)).toArray.size := by rw [hbD1]; kernel_rfl
        have hallD : (bcs (sha qC)).toArray.all (·.oneCell') = true := by rw [List.all_toArray, List.all_eq_true]; exact bcs_one _
        have hzD : z20.size = (bcs (sha qC)).toArray.size := by rw [hbD1]; rfl
        refine hK _ _ ⟨fun _ => ⟨trivial, ?_⟩, fun h => absurd h (by decide)⟩
        clear hK K
        refine wpAnyJ_one 4 (by kernel_rfl) (wpOp_step rfl (fun K hK => ?_))
        refine step_store_row rfl 120 _ _ rfl w.heap.size (bcs (sha qC)).toArray rfl rfl 120 z20 TD.rs hiD hzD hallD ?_
        refine hK _ _ ⟨fun h => absurd rfl h, fun _ => ?_⟩
        clear hK K
        refine wpAny_done' (by kernel_rfl) ?_ _
        have hfin := setRow_heap wD w.heap.size _ (bcs (sha qC)).toArray _ _ TD.rs
        have HF9 := Lib.hid hfin
        have HTD := Lib.hid TD
        clear hfin TD hbD hsD hbD1
        go_simp
        go_wp2
        exact bodyPost_ret (v := .agg (bcs (sha qC)).toArray) (results_cell_row (p := 4) (ty := 120) rfl _ _ w.heap.size 120 _ (0, 0) _ rfl HF9.out Tryz.underlying120 rfl hiD) rfl ⟨by rw [HQC.out, HQ9.out]; rfl, below_setRow HTD.out.bel (Nat.le_refl _) _⟩
end Go.Proofs.YtmbfenkmabdokaaGreatDoor

namespace Go.Proofs.YtmbfenkmabdokaaGreatDoor
open Go.RowKit

theorem heap_below0 {w w' : World} {b : Nat} {o : Obj} (h : w.heap[b]? = some o) (k : Below w.heap.size w w') : w'.heap[b]? = some o := by
  rw [k.block _ (lt_of_heap h)]; exact h
/-- block b is a builder that holds l -/
def Bd (w : World) (b : Nat) (l : Bytes) : Prop := Lib.IsBuilderF 116 5 b b (Lib.byteCells l) w
/-- what a call on it keeps -/
def KB (b : Nat) (w w' : World) : Prop := Below b w w' ∧ Lib.OthersKept 5 (some b) w w'
theorem KB.refl (b : Nat) (w : World) : KB b w w := ⟨Below.refl _ _, Lib.OthersKept.refl _ _ _⟩
theorem KB.trans {b : Nat} {u v w : World} (h : KB b u v) (k : KB b v w) : KB b u w := ⟨h.1.trans k.1, h.2.trans k.2⟩
/-- a block that is no row of bytes stays -/
theorem KB.cells {b k : Nat} {w w' : World} (h : KB b w w') {cs : Array Value} {t : TypeId} {fz : Nat × Nat} (hk : w.heap[k]? = some (.cells cs t fz)) (hne : k ≠ b) (ht : t ≠ 5) : w'.heap[k]? = some (.cells cs t fz) :=
  h.2 k _ hk (fun e => hne (Option.some.inj e)) (fun _ _ e => ht (by cases e; rfl))
theorem KB.of_below {b : Nat} {w w' : World} (h : Below w.heap.size w w') (hb : b ≤ w.heap.size) : KB b w w' :=
  ⟨h.mono hb, fun k o hk _ _ => by rw [h.block k (lt_of_heap hk)]; exact hk⟩

theorem Bd.lt {w : World} {b : Nat} {l : Bytes} (h : Bd w b l) : b < w.heap.size := by
  rcases h with ⟨_, v, h, _⟩ | ⟨_, v, h, _⟩ <;> exact lt_of_heap h
theorem Bd.below {w w' : World} {b : Nat} {l : Bytes} (h : Bd w b l) (k : Below w.heap.size w w') : Bd w' b l := by
  have key : ∀ p, Lib.BuilderAtF 116 5 b b p (Lib.byteCells l) w → Lib.BuilderAtF 116 5 b b p (Lib.byteCells l) w' := by
    rintro p ⟨h1, v, h2, h3, h4⟩
    refine ⟨h1, v, heap_below0 h2 k, ?_, h4⟩
    refine ⟨h3.1, ?_⟩
    rcases h3.2 with h5 | ⟨g, cap, cur, fz, hv, hg, hh, r⟩
    · exact .inl h5
    · exact .inr ⟨g, cap, cur, fz, hv, hg, heap_below0 hh k, r⟩
  rcases h with h | h
  · exact .inl (key _ h)
  · exact .inr (key _ h)
theorem Bd.new (w : World) : Bd (w.alloc (.cells #[.pointer none, .slice none 0 0] 116)) w.heap.size [] :=
  .inl ⟨Nat.le_refl _, .slice none 0 0, heap_alloc_new w _, World.ownsRowF_nil _ _ _ _, by simp [Value.ownBlock]⟩

theorem szB : (Tryz.prog.info? 116).map (fun i => i.size) = some 2 := by kernel_rfl
theorem liesB : liesAt Tryz.prog Tryz.prog.depth 116 (2 / Tryz.prog.cellsOf 116) 0 116 1 = true := by kernel_rfl

set_option maxRecDepth 100000 in
set_option maxHeartbeats 1000000 in
theorem copyCheck_ok (w : World) (b : Nat) (l : Bytes) (h : Bd w b l) :
    Calls Tryz.prog 132 #[.pointer (some ⟨b, 0, none⟩)] w fun e w' => e = .returned (.tuple #[]) ∧ Lib.BuilderAtF 116 5 b b (.pointer (some ⟨b, 0, none⟩)) (Lib.byteCells l) w' ∧ KB b w w' ∧ w'.heap.size = w.heap.size := by
  obtain ⟨j, hj, hjs⟩ := Option.map_eq_some_iff.1 szB
  rcases h with h | h
  · have h0 := h.cell0
    have hsh := h.shape
    have hfz := Lib.BuilderAtF.frozen0 h
    go_enter Tryz.func132, Tryz.ntmps132
    go_wp2
    rw [Lib.run_to_unsafe w ⟨b, 0, none⟩ Tryz.underlying114 Tryz.underlying277 hj (by rw [hjs]; decide) hsh (Nat.zero_lt_succ 1)]
    simp only [Result.andThen]
    rw [Oper.upon_value]
    go_wp2
    rw [run_callFunc_extern Tryz.func176 (by kernel_rfl) (by kernel_rfl) (by kernel_rfl) (e := Extern.AbiNoEscape.same) (by kernel_rfl)]
    rw [Lib.run_noEscape]
    simp only [Result.andThen]
    rw [Oper.upon_value]
    go_wp2
    rw [Lib.run_from_unsafe w ⟨b, 0, none⟩ Tryz.underlying277 Tryz.underlying114 hj hsh liesB]
    simp only [Result.andThen]
    rw [Oper.upon_value]
    go_wp2
    go_end0
    refine ⟨rfl, h.used _, ⟨(Below.refl b w).setCell (p := ⟨b, 0, none⟩) (Nat.le_refl b) _, ?_⟩, by simp⟩
    intro k o hk hne _
    rw [Below.heap_setCell w ⟨b, 0, none⟩ _ k (fun e => hne (by rw [e]))]
    exact hk
  · have h0 := h.cell0
    go_enter Tryz.func132, Tryz.ntmps132
    go_wp2
    rw [Lib.run_neq_ptr_same w _ Tryz.underlying114 hj]
    go_wp2
    go_end0
    exact ⟨rfl, h, KB.refl _ _, rfl⟩
theorem byteCells_app (l : Bytes) (s : ByteArray) : Lib.byteCells l ++ Lib.strCells s = Lib.byteCells (l ++ s.data.toList) := by
  simp [Lib.byteCells, Lib.strCells]
theorem byteCells_snoc (l : Bytes) (c : UInt8) : Lib.byteCells l ++ [.int .u8 (c.toNat : Int)] = Lib.byteCells (l ++ [c]) := by
  simp [Lib.byteCells]

set_option maxRecDepth 100000 in
set_option maxHeartbeats 1000000 in
theorem WriteString_ok (w : World) (b : Nat) (l : Bytes) (s : ByteArray) (h : Bd w b l) (hlen : l.length + s.size ≤ 140737488355328) :
    Calls Tryz.prog 149 #[.pointer (some ⟨b, 0, none⟩), .string s] w fun e w' => e = .returned (.tuple #[.int .i64 s.size, .nilIface]) ∧ Bd w' b (l ++ s.data.toList) ∧ KB b w w' := by
  have hlt := h.lt
  obtain ⟨i0, hi, hz0, hz1, hz2⟩ := info_parts info_u8
  have cC := Lib.hid (copyCheck_ok w b l h)
  clear h
  go_enter Tryz.func149, Tryz.ntmps149
  go_wp2_with fail
  refine cC.out.mono ?_
  rintro e w1 ⟨rfl, ⟨hB, v, hbk, hown, hne⟩, hkb, hsz⟩
  have c0 : w1.cell? ⟨b, 0, none⟩ = some (.pointer (some ⟨b, 0, none⟩)) := by simp [World.cell?, hbk]
  have c1 : w1.cell? ⟨b, 1, none⟩ = some v := by simp [World.cell?, hbk]
  have hlt1 : b < w1.heap.size := by omega
  have HBK := Lib.hid hbk; have HNE := Lib.hid hne; have HKB := Lib.hid hkb
  clear hbk hne hkb hsz
  dsimp only
  go_wp2_with (at_builtin; refine Lib.wpList_append_own_stringF _ rfl _ _ 26 9 rfl b 5 i0 Tryz.underlying26 Tryz.underlying9 hi hz0 hz1 hz2 _ _ _ rfl hown s rfl ?c3 ?c4 ?c5 ?_)
  case c3 => rw [Lib.byteCells_length]; unfold maxLen; omega
  case c4 => rw [Lib.byteCells_length]; omega
  case c5 => omega
  intro v' w2 hown' hgrow _
  have hlt2 : b < w2.heap.size := Nat.lt_of_lt_of_le hlt1 (by have := hgrow.size; omega)
  have hb2 : w2.heap[b]? = some (.cells #[.pointer (some ⟨b, 0, none⟩), v] 116 (0, 0)) := by
    rw [hgrow.block b (by omega) (fun e => HNE.out e.symm)]
    exact HBK.out
  have d0 : w2.cell? ⟨b, 0, none⟩ = some (.pointer (some ⟨b, 0, none⟩)) := by simp [World.cell?, hb2]
  have d1 : w2.cell? ⟨b, 1, none⟩ = some v := by simp [World.cell?, hb2]
  have f1 : w2.frozen? ⟨b, 1, none⟩ = false := by simp [World.frozen?, hb2]
  obtain ⟨A', cap', rfl⟩ : ∃ A' cap', v' = .slice A' ((Lib.byteCells l).length + s.size) cap' := by
    rcases hown'.2 with ⟨h0, h1⟩ | ⟨g, cap, cur, fz, h0, _⟩
    · exact ⟨none, 0, by rw [h0, h1]⟩
    · exact ⟨_, _, h0⟩
  have HB2 := Lib.hid hb2; have HOWN := Lib.hid hown'; have HG := Lib.hid hgrow; have HO := Lib.hid hown
  clear hb2 hown' hgrow hown c0 c1
  go_wp2
  go_ret2
  refine ⟨by simp, .inr ?_, ?_⟩
  · have := Lib.BuilderAtF.put (T := 116) (e := 5) (B := b) (Nat.le_refl b) HB2.out (bs' := Lib.byteCells l ++ Lib.strCells s) (by simpa [Lib.strCells] using HOWN.out) (by decide)
    rw [byteCells_app] at this
    exact this
  · refine ⟨((HKB.out.1).grown HG.out (by omega) (fun k hk => (HO.out.lt k hk).1)).setCell (p := ⟨b, 1, none⟩) (Nat.le_refl b) _, ?_⟩
    exact (HKB.out.2.grown HG.out (Lib.ownsRowF_kind HO.out)).setCell ⟨b, 1, none⟩ rfl _

set_option maxRecDepth 100000 in
set_option maxHeartbeats 1000000 in
theorem WriteByte_ok (w : World) (b : Nat) (l : Bytes) (c : UInt8) (h : Bd w b l) (hlen : l.length + 1 ≤ 140737488355328) :
    Calls Tryz.prog 77 #[.pointer (some ⟨b, 0, none⟩), .int .u8 (c.toNat : Int)] w fun e w' => e = .returned .nilIface ∧ Bd w' b (l ++ [c]) ∧ KB b w w' := by
  have hlt := h.lt
  obtain ⟨i0, hi, hz0, hz1, hz2⟩ := info_parts info_u8
  have cC := Lib.hid (copyCheck_ok w b l h)
  clear h
  go_enter Tryz.func77, Tryz.ntmps77
  go_wp2_with fail
  refine cC.out.mono ?_
  rintro e w1 ⟨rfl, ⟨hB, v, hbk, hown, hne⟩, hkb, hsz⟩
  have c0 : w1.cell? ⟨b, 0, none⟩ = some (.pointer (some ⟨b, 0, none⟩)) := by simp [World.cell?, hbk]
  have c1 : w1.cell? ⟨b, 1, none⟩ = some v := by simp [World.cell?, hbk]
  have hlt1 : b < w1.heap.size := by omega
  have HBK := Lib.hid hbk; have HNE := Lib.hid hne; have HKB := Lib.hid hkb
  clear hbk hne hkb hsz
  dsimp only
  go_wp2_with (at_builtin; refine wpList_append_ownF _ rfl _ _ 26 rfl b 5 i0 (.int .u8 0) 1 1 Tryz.underlying26 hi hz0 hz1 hz2 rfl (by decide) _ _ _ rfl (hown.alloc _) ⟨w1.heap.size, 0, none⟩ 1 1 [.int .u8 (c.toNat : Int)] rfl rfl ?c1 ?c2 ?c3 ?c4 ?c5 ?_)
  case c1 =>
    intro j u hj
    match j, hj with
    | 0, hj => simp at hj; subst hj; simp [Addr.add]
  case c2 => intro u hu; simp at hu; subst hu; rfl
  case c3 => rw [Lib.byteCells_length]; unfold maxLen; omega
  case c4 => rw [Lib.byteCells_length]; omega
  case c5 => simp; omega
  intro v' w2 hown' hgrow _
  have hlt2 : b < w2.heap.size := Nat.lt_of_lt_of_le hlt1 (by have := hgrow.size; simp at this; omega)
  have hb2 : w2.heap[b]? = some (.cells #[.pointer (some ⟨b, 0, none⟩), v] 116 (0, 0)) := by
    rw [hgrow.block b (by simp; omega) (fun e => HNE.out e.symm), Lib.alloc_old w1 _ b hlt1]
    exact HBK.out
  have d0 : w2.cell? ⟨b, 0, none⟩ = some (.pointer (some ⟨b, 0, none⟩)) := by simp [World.cell?, hb2]
  have d1 : w2.cell? ⟨b, 1, none⟩ = some v := by simp [World.cell?, hb2]
  have f1 : w2.frozen? ⟨b, 1, none⟩ = false := by simp [World.frozen?, hb2]
  obtain ⟨A', cap', rfl⟩ : ∃ A' cap', v' = .slice A' ((Lib.byteCells l).length + 1) cap' := by
    rcases hown'.2 with ⟨h0, h1⟩ | ⟨g, cap, cur, fz, h0, _⟩
    · exact ⟨none, 0, by rw [h0, h1]⟩
    · exact ⟨_, _, h0⟩
  have HB2 := Lib.hid hb2; have HOWN := Lib.hid hown'; have HG := Lib.hid hgrow; have HO := Lib.hid hown
  clear hb2 hown' hgrow hown c0 c1
  go_wp2
  go_ret
  refine ⟨rfl, .inr ?_, ?_⟩
  · have := Lib.BuilderAtF.put (T := 116) (e := 5) (B := b) (Nat.le_refl b) HB2.out (bs' := Lib.byteCells l ++ [.int .u8 (c.toNat : Int)]) (by simpa using HOWN.out) (by decide)
    rw [byteCells_snoc] at this
    exact this
  · refine ⟨((HKB.out.1.alloc (by omega) _).grown HG.out (by simp; omega) (fun k hk => (HO.out.lt k hk).1)).setCell (p := ⟨b, 1, none⟩) (Nat.le_refl b) _, ?_⟩
    exact ((HKB.out.2.alloc _).grown HG.out (Lib.ownsRowF_kind (HO.out.alloc _))).setCell ⟨b, 1, none⟩ rfl _

theorem BString_ok (w : World) (b : Nat) (l : Bytes) (h : Bd w b l) :
    Calls Tryz.prog 78 #[.pointer (some ⟨b, 0, none⟩)] w fun e w' => e = .returned (.string ⟨l.toArray⟩) ∧ Bd w' b l ∧ KB b w w' :=
  (Tryz.Builder_String_any_k b b l w h (Nat.le_of_lt h.lt)).mono fun _ _ ⟨he, h1, h2, h3⟩ => ⟨he, h1, h2, h3⟩
theorem BLen_ok (w : World) (b : Nat) (l : Bytes) (h : Bd w b l) :
    Calls Tryz.prog 101 #[.pointer (some ⟨b, 0, none⟩)] w fun e w' => e = .returned (.int .i64 l.length) ∧ w' = w := by
  have := Tryz.Builder_Len_f b b (Lib.byteCells l) w h
  rw [Lib.byteCells_length] at this
  exact this

/-! ### base sixteen -/
theorem dig16 (n : Nat) (h : n < (ByteArray.mk #[48, 49, 50, 51, 52, 53, 54, 55, 56, 57, 97, 98, 99, 100, 101, 102]).size) :
    (ByteArray.mk #[48, 49, 50, 51, 52, 53, 54, 55, 56, 57, 97, 98, 99, 100, 101, 102])[n] = digB n := by
  have key : ∀ n : Fin 16, (ByteArray.mk #[48, 49, 50, 51, 52, 53, 54, 55, 56, 57, 97, 98, 99, 100, 101, 102])[n.1]'(n.2) = digB n.1 := by decide
  exact key ⟨n, h⟩
set_option maxRecDepth 100000 in
theorem and15b (c : UInt8) : bits BinOp.and IntKind.u8 (c.toNat : Int) 15 = ((c.toNat % 16 : Nat) : Int) := by
  have key : ∀ n : Fin 256, bits BinOp.and IntKind.u8 (n.1 : Int) 15 = ((n.1 % 16 : Nat) : Int) := by decide
  exact key ⟨c.toNat, c.toNat_lt⟩

set_option maxRecDepth 100000 in
set_option maxHeartbeats 1000000 in
theorem Hex_ok (w : World) (A : Option Addr) (c : Nat) (l : Bytes) (hl : RdB w A l) (hn : l.length ≤ 70368744177664) :
    Calls Tryz.prog 28 #[.slice A l.length c] w fun e w' => e = .returned (.string ⟨(hexB l).toArray⟩) ∧ Below w.heap.size w w' := by
  have hb0 := Bd.new w
  have hA := hl
  go_enter Tryz.func28, Tryz.ntmps28
  go_wp2
  go_loopw [8] (fun i wr => ∃ k : Nat, k ≤ l.length ∧ i = .int .i64 k ∧ Bd wr w.heap.size (hexB (l.take k)) ∧ KB w.heap.size w wr) (fun i _ => l.length - (intOf i).toNat)
  case atStart => exact ⟨0, Nat.zero_le _, rfl, hb0, KB.of_below ((Below.refl _ _).alloc (Nat.le_refl _) _) (Nat.le_refl _)⟩
  case round =>
    obtain ⟨k, hk, rfl, hbd, hkb⟩ := hrel
    by_cases hlt : k < l.length
    · rcases hl with rfl | ⟨sb, so, rfl, hl⟩
      · simp at hlt
      have hc := hl k hlt
      have hr := RdB.below (.inr ⟨sb, so, rfl, hl⟩) hkb.1
      have hc2 : wr.cell? ⟨sb, so + k, none⟩ = some (.int .u8 ((l[k]?.getD 0).toNat : Int)) := by
        rcases hr with hr | ⟨b', o', e', hr⟩
        · rw [hr] at hlt; simp at hlt
        · cases e'; exact hr k hlt
      have hst : hexB (l.take (k + 1)) = hexB (l.take k) ++ [digB ((l[k]?.getD 0).toNat / 16)] ++ [digB ((l[k]?.getD 0).toNat % 16)] := by
        rw [show l.take (k + 1) = l.take k ++ [l[k]?.getD 0] from by rw [List.take_succ_eq_append_getElem hlt]; simp [List.getElem?_eq_getElem hlt], hexB_snoc]; simp
      have HST := Lib.hid hst
      have hll : (hexB (l.take k)).length ≤ 140737488355328 - 2 := by rw [hexB_length, List.length_take]; omega
      clear hst hl hr hc hA
      generalize hch : l[k]?.getD 0 = ch at *
      have HCH := Lib.hid hch; clear hch
      have hlc := ch.toNat_lt
      have HBD := Lib.hid hbd; have HKB := Lib.hid hkb
      clear hbd hkb
      have e15 := and15b ch
      have c1 := WriteByte_ok wr w.heap.size _ (digB (ch.toNat / 16)) HBD.out (by omega)
      go_wp2_with fail
      rw [dig16]
      refine c1.mono ?_
      rintro e w2 ⟨rfl, hbd2, hkb2⟩
      have c2 := WriteByte_ok w2 w.heap.size _ (digB (ch.toNat % 16)) hbd2 (by simp; omega)
      have HKB2 := Lib.hid hkb2
      clear hbd2 hkb2 c1
      dsimp only
      go_wp2_with fail
      rw [dig16]
      refine c2.mono ?_
      rintro e w3 ⟨rfl, hbd3, hkb3⟩
      have HBD3 := Lib.hid hbd3; have HKB3 := Lib.hid hkb3
      clear hbd3 hkb3 c2
      dsimp only
      go_wp2_with fail
      go_roundw
      case rel => exact ⟨k + 1, by omega, by go_num, by rw [HST.out]; exact HBD3.out, (HKB.out.trans HKB2.out).trans HKB3.out⟩
      case measure => simp [intOf]; omega
    · obtain rfl : k = l.length := by omega
      rw [List.take_length] at hbd
      have cS := BString_ok wr w.heap.size _ hbd
      have HKB := Lib.hid hkb
      clear hbd hkb hA hl
      go_wp2_with first | (go_at_call 78; refine cS.mono ?_; rintro e w2 ⟨rfl, hbd2, hkb2⟩) | fail
      go_ret
      exact ⟨rfl, HKB.out.1.trans hkb2.1⟩
end Go.Proofs.YtmbfenkmabdokaaGreatDoor
