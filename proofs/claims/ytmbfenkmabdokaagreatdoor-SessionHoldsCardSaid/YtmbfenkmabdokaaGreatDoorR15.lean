/- Parts of the proof: Sess6, All1, All2, Entry, SortE, SortF, Hold2, Hold3, Ents, SortR, Sess2, Cut0, Text, Rd. -/
import Derived.Lib.OwnBridge
import Derived.Test.YtmbfenkmabdokaaGreatDoorR14
import Derived.Test.YtmbfenkmabdokaaGreatDoorR09
import Derived.Test.YtmbfenkmabdokaaGreatDoorR02
import Derived.Test.YtmbfenkmabdokaaGreatDoorR08
set_option linter.all false
namespace Go.Proofs.YtmbfenkmabdokaaGreatDoor
open Go.RowKit Go.Mp

set_option maxRecDepth 100000 in
theorem within_ok (w : World) (n m : Int) : Calls Tryz.prog 43 #[.int .i64 n, .int .i64 m] w fun e w' => e = .returned (.bool (decide (0 ≤ n ∧ n ≤ m))) ∧ w = w' := by
  by_cases h1 : 0 ≤ n
  · by_cases h2 : n ≤ m
    · have hd : decide (0 ≤ n ∧ n ≤ m) = true := by simp [h1, h2]
      rw [hd]
      go_enter Tryz.func43, Tryz.ntmps43
      go_wp2
      go_ret
      exact ⟨rfl, rfl⟩
    · have hd : decide (0 ≤ n ∧ n ≤ m) = false := by simp [h2]
      rw [hd]
      go_enter Tryz.func43, Tryz.ntmps43
      go_wp2
      go_ret
      exact ⟨rfl, rfl⟩
  · have hd : decide (0 ≤ n ∧ n ≤ m) = false := by simp [h1]
    rw [hd]
    go_enter Tryz.func43, Tryz.ntmps43
    go_wp2
    go_ret
    exact ⟨rfl, rfl⟩

set_option maxRecDepth 100000 in
theorem when_ok (w : World) (c : Bool) (n : Int) : Calls Tryz.prog 40 #[.bool c, .int .i64 n] w fun e w' =>
    e = .returned (.func (.func 92) #[] #[.pointer (some ⟨w.heap.size, 0, none⟩), .pointer (some ⟨w.heap.size + 1, 0, none⟩)]) ∧ w' = (w.alloc (.cells #[.bool c] 4)).alloc (.cells #[.int .i64 n] 23) := by
  go_enter Tryz.func40, Tryz.ntmps40
  go_wp2
  go_ret
  exact ⟨rfl, rfl⟩

set_option maxRecDepth 100000 in
theorem when1_ok (w : World) (a b : Nat) (c : Bool) (n : Int) (h1 : w.cell? ⟨a, 0, none⟩ = some (.bool c)) (h2 : w.cell? ⟨b, 0, none⟩ = some (.int .i64 n)) :
    Calls Tryz.prog 92 #[.pointer (some ⟨a, 0, none⟩), .pointer (some ⟨b, 0, none⟩)] w fun e w' => e = .returned (.int .i64 (if c then 0 else n)) ∧ w' = w := by
  cases c with
  | true =>
    go_enter Tryz.func92, Tryz.ntmps92
    go_wp2
    go_ret
    exact ⟨rfl, rfl⟩
  | false =>
    go_enter Tryz.func92, Tryz.ntmps92
    go_wp2
    go_ret
    exact ⟨rfl, rfl⟩

/-- the purse is filled by what the clock has brought -/
def Sess.refill (x : Sess) (now : Nat) : Sess :=
  if 20 ≤ x.left + (now - x.at_) / 100 then { x with left := 20, at_ := max (x.at_ + (now - x.at_) / 100 * 100) now }
  else { x with left := x.left + (now - x.at_) / 100, at_ := x.at_ + (now - x.at_) / 100 * 100 }

theorem setCell_row {w : World} {g : Nat} {cs : Array Value} {t : TypeId} {fr : Nat × Nat} (h : w.heap[g]? = some (.cells cs t fr)) (i : Nat) (v : Value) :
    (w.setCell ⟨g, i, none⟩ v).heap[g]? = some (.cells (cs.setIfInBounds i v) t fr) := by
  rw [setCell_eq_setRow _ _ _ _ _ _ _ h]; exact setRow_heap _ _ _ _ _ _ h
theorem refill_cells (t : ByteArray) (x : Sess) (l a : Nat) : ((sessC t x).setIfInBounds 6 (.int .i64 (l : Int))).setIfInBounds 7 (.int .i64 (a : Int)) = sessC t { x with left := l, at_ := a } := rfl

set_option maxRecDepth 100000 in
set_option maxHeartbeats 2000000 in
theorem refill_ok (w : World) (xb now : Nat) (t : ByteArray) (x : Sess) (hb : w.heap[xb]? = some (.cells (sessC t x) 36 (0, 0))) (hn : now ≤ 1125899906842624) (ha : x.at_ ≤ 1125899906842624) (hl : x.left ≤ 1125899906842624) :
    Calls Tryz.prog 51 #[.pointer (some ⟨xb, 0, none⟩), .int .i64 (now : Int)] w fun e w' =>
      e = .returned (.tuple #[]) ∧ w'.heap[xb]? = some (.cells (sessC t (x.refill now)) 36 (0, 0)) ∧ Kp (· = xb) w w' := by
  have c6 : w.cell? ⟨xb, 6, none⟩ = some (.int .i64 (x.left : Int)) := by rw [World.cell?]; simp only [hb]; rfl
  have c7 : w.cell? ⟨xb, 7, none⟩ = some (.int .i64 (x.at_ : Int)) := by rw [World.cell?]; simp only [hb]; rfl
  have f6 : w.frozen? ⟨xb, 6, none⟩ = false := by simp [World.frozen?, hb]
  have f7 : w.frozen? ⟨xb, 7, none⟩ = false := by simp [World.frozen?, hb]
  have HB := Lib.hid hb
  clear hb
  have hmx : max ((now : Int) - (x.at_ : Int)) 0 = ((now - x.at_ : Nat) : Int) := by omega
  have e1 : (x.left : Int) + ((now - x.at_ : Nat) : Int) / 100 = ((x.left + (now - x.at_) / 100 : Nat) : Int) := by omega
  have e2 : (x.at_ : Int) + ((now - x.at_ : Nat) : Int) / 100 * 100 = ((x.at_ + (now - x.at_) / 100 * 100 : Nat) : Int) := by omega
  have e3 : max ((x.at_ : Int) + ((now - x.at_ : Nat) : Int) / 100 * 100) (now : Int) = ((max (x.at_ + (now - x.at_) / 100 * 100) now : Nat) : Int) := by omega
  have E1 := Lib.hid e1; have E2 := Lib.hid e2; have E3 := Lib.hid e3
  clear e1 e2 e3
  go_enter Tryz.func51, Tryz.ntmps51
  go_wp2
  · rename_i hlt
    go_end0
    have hr : x.refill now = { x with left := 20, at_ := max (x.at_ + (now - x.at_) / 100 * 100) now } := by
      unfold Sess.refill; rw [if_pos]; have := E1.out; omega
    refine ⟨rfl, ?_, ((((Kp.refl (· = xb) w).setCell _ _ rfl).setCell _ _ rfl).setCell _ _ rfl).setCell _ _ rfl⟩
    rw [E3.out, hr]
    exact setCell_row (setCell_row (setCell_row (setCell_row HB.out _ _) _ _) _ _) _ _
  · rename_i hlt
    go_end0
    have hr : x.refill now = { x with left := x.left + (now - x.at_) / 100, at_ := x.at_ + (now - x.at_) / 100 * 100 } := by
      unfold Sess.refill; rw [if_neg]; have := E1.out; omega
    refine ⟨rfl, ?_, ((Kp.refl (· = xb) w).setCell _ _ rfl).setCell _ _ rfl⟩
    rw [E1.out, E2.out, hr, ← refill_cells]
    exact setCell_row (setCell_row HB.out _ _) _ _
end Go.Proofs.YtmbfenkmabdokaaGreatDoor

namespace Go.Proofs.YtmbfenkmabdokaaGreatDoor
open Go.RowKit Go.Mp

theorem below_same {B : Nat} {w w' : World} {g : Nat} {v : Value} {ty : TypeId} (hb : Below B w w') (h : w'.heap[g]? = some (.cells #[v] ty (0, 0))) : Below B w (w'.setCell ⟨g, 0, none⟩ v) := by
  have hr := setCell_row h 0 v
  have e : (#[v] : Array Value).setIfInBounds 0 v = #[v] := rfl
  rw [e] at hr
  refine ⟨hb.os, hb.tape, hb.output, by simpa using hb.size, fun k hk => ?_⟩
  by_cases hkg : k = g
  · subst hkg; rw [hr, ← h]; exact hb.block k hk
  · exact (Below.heap_setCell w' ⟨g, 0, none⟩ v k hkg).trans (hb.block k hk)

set_option maxRecDepth 100000 in
set_option maxHeartbeats 1000000 in
theorem All1_ok (w : World) (a0 a1 a2 a3 s t p b : Nat) (M : KV) (fk tk : ByteArray) (ty : TypeId) (h : St w s t p b M) (h0 : w.cell? ⟨a0, 0, none⟩ = some (.pointer (some ⟨s, 0, none⟩))) (h1 : w.cell? ⟨a1, 0, none⟩ = some (.string fk))
    (h2 : w.cell? ⟨a2, 0, none⟩ = some (.string tk)) (h3 : w.heap[a3]? = some (.cells #[.slice none 0 0] ty (0, 0))) :
    Calls Tryz.prog 103 #[.pointer (some ⟨a0, 0, none⟩), .pointer (some ⟨a1, 0, none⟩), .pointer (some ⟨a2, 0, none⟩), .pointer (some ⟨a3, 0, none⟩)] w fun e w' =>
      e = .returned .nilIface ∧ Below w.heap.size w w' := by
  obtain ⟨S, hSd⟩ : ∃ S : World → Prop, ∀ w', S w' ↔ (w'.cell? ⟨a0, 0, none⟩ = some (.pointer (some ⟨s, 0, none⟩)) ∧ w'.cell? ⟨a1, 0, none⟩ = some (.string fk) ∧ w'.cell? ⟨a2, 0, none⟩ = some (.string tk) ∧
    w'.cell? ⟨s, 6, none⟩ = some (.pointer (some ⟨t, 0, none⟩)) ∧ w'.cell? ⟨a3, 0, none⟩ = some (.slice none 0 0) ∧ w'.frozen? ⟨a3, 0, none⟩ = false) := ⟨_, fun _ => Iff.rfl⟩
  have mkS : ∀ W, Below w.heap.size w W → S W := fun W k => by
    have h3' := heap_below h3 k
    refine (hSd _).2 ⟨?_, ?_, ?_, ?_, ?_, ?_⟩
    · rw [← h0]; exact World.cell?_of_block (k.block _ (lt_of_cell h0))
    · rw [← h1]; exact World.cell?_of_block (k.block _ (lt_of_cell h1))
    · rw [← h2]; exact World.cell?_of_block (k.block _ (lt_of_cell h2))
    · exact (h.below k).c6
    · rw [World.cell?]; simp only [h3']; rfl
    · simp [World.frozen?, h3']
  have hS : S w.drew := mkS _ (Below.refl _ _).drew
  have HSd := Lib.hid hSd; have MKS := Lib.hid mkS; have HT := Lib.hid h.tree; have H3 := Lib.hid h3
  clear hSd mkS h0 h1 h2 h3 h
  go_enter Tryz.func103, Tryz.ntmps103
  go_wp2_with fail
  refine wp_region_I (by kernel_rfl) S 99 ?_
  refine wpAnyS_take 0 (v := ?_) rfl (by kernel_rfl) (by kernel_rfl) (by kernel_rfl) rfl (fun _ _ _ h => h) (.inl ⟨rfl, fun w' hS' => ?_⟩) hS ?_; rotate_left 1; focus (have hf := (HSd.out w').1 hS'; (repeat (obtain ⟨_, hf⟩ := hf)); go_simp; (try rfl))
  refine wpAnyS_take 1 (v := ?_) rfl (by kernel_rfl) (by kernel_rfl) (by kernel_rfl) rfl (fun _ _ _ h => h) (.inl ⟨rfl, fun w' hS' => ?_⟩) hS ?_; rotate_left 1; focus (have hf := (HSd.out w').1 hS'; (repeat (obtain ⟨_, hf⟩ := hf)); go_simp; (try rfl))
  refine wpAnyS_take 2 (v := ?_) rfl (by kernel_rfl) (by kernel_rfl) (by kernel_rfl) rfl (fun _ _ _ h => h) (.inl ⟨rfl, fun w' hS' => ?_⟩) hS ?_; rotate_left 1; focus (have hf := (HSd.out w').1 hS'; (repeat (obtain ⟨_, hf⟩ := hf)); go_simp; (try rfl))
  refine wpAnyS_take 3 (v := ?_) rfl (by kernel_rfl) (by kernel_rfl) (by kernel_rfl) rfl (fun _ _ _ h => h) (.inl ⟨rfl, fun w' hS' => ?_⟩) hS ?_; rotate_left 1; focus (have hf := (HSd.out w').1 hS'; (repeat (obtain ⟨_, hf⟩ := hf)); go_simp; (try rfl))
  refine wpAnyS_take 4 (v := ?_) rfl (by kernel_rfl) (by kernel_rfl) (by kernel_rfl) rfl (fun _ _ _ h => h) (.inl ⟨rfl, fun w' hS' => ?_⟩) hS ?_; rotate_left 1; focus (have hf := (HSd.out w').1 hS'; (repeat (obtain ⟨_, hf⟩ := hf)); go_simp; (try rfl))
  refine wpAnyS_take 5 (v := ?_) rfl (by kernel_rfl) (by kernel_rfl) (by kernel_rfl) rfl (fun _ _ _ h => h) (.inl ⟨rfl, fun w' hS' => ?_⟩) hS ?_; rotate_left 1; focus (have hf := (HSd.out w').1 hS'; (repeat (obtain ⟨_, hf⟩ := hf)); go_simp; (try rfl))
  refine wpAnyI_one 6 (by kernel_rfl) (wpOp_step rfl (fun K hK => ?_)); go_simp
  refine (treeAll_nil _ t p (heap_below HT.out (Below.refl _ _).drew) fk tk).mono ?_
  rintro e w2 ⟨rfl, hb2⟩
  have hb2' : Below w.heap.size w w2 := (Below.refl _ _).drew.trans hb2
  refine hK _ _ ⟨fun _ => MKS.out _ hb2', ?_⟩; clear hK K
  have hS := MKS.out _ hb2'
  refine wpAnyS_take 7 (v := ?_) rfl (by kernel_rfl) (by kernel_rfl) (by kernel_rfl) rfl (fun _ _ _ h => h) (.inl ⟨rfl, fun w' hS' => ?_⟩) hS ?_; rotate_left 1; focus (have hf := (HSd.out w').1 hS'; (repeat (obtain ⟨_, hf⟩ := hf)); go_simp; (try rfl))
  refine wpAnyS_take 8 (v := ?_) rfl (by kernel_rfl) (by kernel_rfl) (by kernel_rfl) rfl (fun _ _ _ h => h) (.inl ⟨rfl, fun w' hS' => ?_⟩) hS ?_; rotate_left 1; focus (have hf := (HSd.out w').1 hS'; (repeat (obtain ⟨_, hf⟩ := hf)); go_simp; (try rfl))
  refine wpAnyS_take 9 (v := ?_) rfl (by kernel_rfl) (by kernel_rfl) (by kernel_rfl) rfl (fun _ _ _ h => h) (.inl ⟨rfl, fun w' hS' => ?_⟩) hS ?_; rotate_left 1; focus (have hf := (HSd.out w').1 hS'; (repeat (obtain ⟨_, hf⟩ := hf)); go_simp; (try rfl))
  obtain ⟨_, _, _, _, c3, f3⟩ := (HSd.out _).1 hS
  have HB3 := Lib.hid (below_same hb2' (heap_below H3.out hb2'))
  clear hb2 hb2'
  refine wpAnyI_one 10 (by kernel_rfl) (wpOp_step rfl (fun K hK => ?_)); go_simp
  refine hK _ _ ⟨fun _ => MKS.out _ HB3.out, ?_⟩; clear hK K
  have hS := MKS.out _ HB3.out
  refine wpAnyS_take 11 (v := ?_) rfl (by kernel_rfl) (by kernel_rfl) (by kernel_rfl) rfl (fun _ _ _ h => h) (.inl ⟨rfl, fun w' hS' => ?_⟩) hS ?_; rotate_left 1; focus (have hf := (HSd.out w').1 hS'; (repeat (obtain ⟨_, hf⟩ := hf)); go_simp; (try rfl))
  refine wpAnyI_done (by kernel_rfl) ?_ _
  go_simp
  go_wp2
  go_ret
  exact ⟨rfl, HB3.out⟩
end Go.Proofs.YtmbfenkmabdokaaGreatDoor

namespace Go.Proofs.YtmbfenkmabdokaaGreatDoor
open Go.RowKit Go.Mp Go.Sort

/-- an entry's cells -/
def entE (x : ByteArray × ByteArray) : List Value := [.string x.1, .string x.2]
def entC (x y : ByteArray × ByteArray) : Int := Lib.compareBytes x.1.data.toList y.1.data.toList

set_option maxRecDepth 100000 in
theorem All2_ok (x y : ByteArray × ByteArray) (W : World) : Calls Tryz.prog 106 #[.agg #[.string x.1, .string x.2], .agg #[.string y.1, .string y.2]] W fun e w' =>
    e = .returned (.int .i64 (entC x y)) ∧ ∃ q os', w' = grow (W.drewN q) os' := by
  have hC := fun V => Tryz.strings_Compare x.1 y.1 V
  have HC := Lib.hid hC
  clear hC
  unfold entC
  generalize Lib.compareBytes x.1.data.toList y.1.data.toList = r at *
  obtain ⟨x1, x2⟩ := x
  obtain ⟨y1, y2⟩ := y
  have bx : ((W.alloc (.cells #[.string x1, .string x2] 90)).alloc (.cells #[.string y1, .string y2] 90)) = grow (W.drewN 0) #[.cells #[.string x1, .string x2] 90, .cells #[.string y1, .string y2] 90] := by
    rw [alloc_eq_grow, alloc_eq_grow, grow_grow]; rfl
  have HBX := Lib.hid bx
  clear bx
  go_enter Tryz.func106, Tryz.ntmps106
  go_wp2_with fail
  refine (HC.out _).mono ?_
  rintro e w1 ⟨rfl, rfl⟩
  dsimp only
  go_wp2_with fail
  go_ret
  exact ⟨rfl, 0, _, HBX.out⟩

theorem enters_All2 : ∀ args (W : World), (callFunc 106 args).run Tryz.prog W = .ok (.enter 106 args) W := by
  exact enters_of Tryz.func106 (by kernel_rfl) rfl
end Go.Proofs.YtmbfenkmabdokaaGreatDoor

namespace Go.Mp
open Go.RowKit Go.Instr
variable {P : Program} {w : World}

theorem run_entry {r m : Nat} {es : Array MapEntry} {clock : Nat} {V R : List MapEntry} {e : MapEntry} (h : It w r m es clock (V ++ [e]) R) :
    (Instr.entry (.pointer (some ⟨r, 0, none⟩))).run P w = .ok (.tuple #[e.key, e.val]) w := by
  obtain ⟨seen, hr, hs⟩ := h.iter
  have hg1 : (getObj r).run P w = .ok (.mapIter (some m) clock seen clock) w := by simp [getObj, Sem.run, hr]
  have hg2 : (getObj m).run P w = .ok (.map es clock) w := by simp [getObj, Sem.run, h.map]
  have hb : seen.back? = some e.born := by
    rw [Array.back?_eq_getElem?, ← Array.getElem?_toList, hs]
    have hl : seen.size = V.length + 1 := by rw [← Array.length_toList, hs]; simp
    rw [hl]
    rw [List.map_append, List.getElem?_append_right (by simp)]; simp
  have hf : es.find? (fun x => x.born == e.born) = some e := by
    have hm : e ∈ es.toList := h.perm.mem_iff.1 (by simp)
    rw [← Array.find?_toList]
    have hn := h.born
    generalize es.toList = L at hm hn
    induction L with
    | nil => simp at hm
    | cons x L ih =>
      rw [List.map_cons, List.nodup_cons] at hn
      rw [List.find?_cons]
      by_cases hx : x = e
      · subst hx; simp
      · have hm' : e ∈ L := by
          rcases List.mem_cons.1 hm with h1 | h1
          · exact absurd h1.symm hx
          · exact h1
        have hne : (x.born == e.born) = false := by
          rw [beq_eq_false_iff_ne]; intro he
          exact hn.1 (by rw [he]; exact List.mem_map_of_mem hm')
        rw [hne]; exact ih hm' hn.2
  unfold Instr.entry
  simp [hg1, hg2, hb, hf]
end Go.Mp

namespace Go.Proofs.YtmbfenkmabdokaaGreatDoor
open Go.RowKit Go.Sort

theorem cb_self : ∀ a : Bytes, Lib.compareBytes a a = 0
  | [] => rfl
  | x :: a => by simp [Lib.compareBytes, cb_self a]
theorem cb_cons (x y : UInt8) (a b : Bytes) : Lib.compareBytes (x :: a) (y :: b) = if x.toNat < y.toNat then -1 else if y.toNat < x.toNat then 1 else Lib.compareBytes a b := by
  rw [Lib.compareBytes]; simp only [UInt8.lt_iff_toNat_lt]
theorem cb_trans : ∀ a b c : Bytes, Lib.compareBytes a b < 0 → Lib.compareBytes b c < 0 → Lib.compareBytes a c < 0
  | [], [], c, h, _ => by simp [Lib.compareBytes] at h
  | [], y :: b, [], _, h => by simp [Lib.compareBytes] at h
  | [], y :: b, z :: c, _, _ => by simp [Lib.compareBytes]
  | x :: a, [], c, h, _ => by simp [Lib.compareBytes] at h
  | x :: a, y :: b, [], _, h => by simp [Lib.compareBytes] at h
  | x :: a, y :: b, z :: c, h1, h2 => by
    have ih := cb_trans a b c
    rw [cb_cons] at *
    split at h1 <;> split at h2 <;> (try split at h1) <;> (try split at h2) <;> (try omega)
    all_goals first
      | (rw [if_pos (by omega)]; decide)
      | (rw [if_neg (by omega), if_neg (by omega)]; exact ih h1 h2)
theorem cb_ntrans : ∀ a b c : Bytes, ¬ Lib.compareBytes a b < 0 → ¬ Lib.compareBytes b c < 0 → ¬ Lib.compareBytes a c < 0
  | [], [], c, _, h => h
  | [], y :: b, c, h, _ => by simp [Lib.compareBytes] at h
  | x :: a, [], [], _, _ => by simp [Lib.compareBytes]
  | x :: a, [], z :: c, _, h => by simp [Lib.compareBytes] at h
  | x :: a, y :: b, [], _, _ => by simp [Lib.compareBytes]
  | x :: a, y :: b, z :: c, h1, h2 => by
    have ih := cb_ntrans a b c
    rw [cb_cons] at *
    split at h1 <;> split at h2 <;> (try split at h1) <;> (try split at h2) <;> (try omega)
    all_goals first
      | (rw [if_neg (by omega), if_pos (by omega)]; decide)
      | (rw [if_neg (by omega), if_neg (by omega)]; exact ih h1 h2)
/-- none is less: the same bytes -/
theorem cb_same : ∀ a b : Bytes, ¬ Lib.compareBytes a b < 0 → ¬ Lib.compareBytes b a < 0 → a = b
  | [], [], _, _ => rfl
  | [], y :: b, h, _ => by simp [Lib.compareBytes] at h
  | x :: a, [], _, h => by simp [Lib.compareBytes] at h
  | x :: a, y :: b, h1, h2 => by
    have ih := cb_same a b
    rw [cb_cons] at *
    by_cases hxy : x.toNat < y.toNat
    · rw [if_pos hxy] at h1; omega
    · by_cases hyx : y.toNat < x.toNat
      · rw [if_pos hyx] at h2; omega
      · rw [if_neg hxy, if_neg hyx] at h1
        rw [if_neg hyx, if_neg hxy] at h2
        rw [UInt8.toNat_inj.1 (show x.toNat = y.toNat by omega), ih h1 h2]
theorem swoE : SWO (ltOf entC) where
  irrefl x := by simp [ltOf, entC, cb_self]
  trans x y z h1 h2 := decide_eq_true (cb_trans x.1.data.toList y.1.data.toList z.1.data.toList (of_decide_eq_true h1) (of_decide_eq_true h2))
  ntrans x y z h1 h2 := decide_eq_false (cb_ntrans x.1.data.toList y.1.data.toList z.1.data.toList (of_decide_eq_false h1) (of_decide_eq_false h2))
theorem cmpE (blk off size : Nat) (w : World) : CmpLays Tryz.prog 106 #[] entE 2 entC blk off size w := fun _ _ _ _ x y => All2_ok x y _
end Go.Proofs.YtmbfenkmabdokaaGreatDoor

namespace Go.Proofs.YtmbfenkmabdokaaGreatDoor
open Go.RowKit Go.Sort

theorem aggE (w : World) : (isAgg 90).run Tryz.prog w = .ok true w := by
  simp [isAgg, run_underlying Tryz.underlying90]
theorem infoE : ∃ i, Tryz.prog.info? 90 = some i ∧ i.size = 2 := by
  have h : (Tryz.prog.info? 90).map (fun i => i.size) = some 2 := by kernel_rfl
  cases hi : Tryz.prog.info? 90 with
  | none => rw [hi] at h; cases h
  | some i => rw [hi] at h; exact ⟨i, rfl, by simpa using h⟩
theorem sizeE (w : World) : (Go.sizeOf 90).run Tryz.prog w = .ok 2 w := by
  obtain ⟨i, hi, hs⟩ := infoE
  simp [Go.sizeOf, typeInfo, hi, hs]

theorem sort_ok (W : World) (g c : Nat) (d : Array (ByteArray × ByteArray)) (hH : HoldsK entE 2 W g 0 d) (hg : g < W.heap.size) (hs : d.size < 4611686018427387904) :
    Calls Tryz.prog 105 #[.slice (some ⟨g, 0, none⟩) d.size c, .func (.func 106) #[] #[]] W fun e w' =>
      e = .returned (.tuple #[]) ∧ ∃ d' n os, PermIn 0 d.size d d' ∧ SortedIn (ltOf entC) 0 d.size d' ∧ w' = sortWorldK entE 2 W g 0 n d' os :=
  AnyQ.slices_SortFunc Tryz.sortEnt 2 aggE sizeE entE (fun _ => rfl) (fun x v hv => by simp [entE] at hv; rcases hv with rfl | rfl <;> rfl) entC swoE 106 #[] g 0 c d W enters_All2 (cmpE g 0 d.size W) hH hg hs
theorem sort_none (p : Option Addr) (c : Nat) (W : World) :
    Calls Tryz.prog 105 #[.slice p 0 c, .func (.func 106) #[] #[]] W fun e w' => e = .returned (.tuple #[]) ∧ w' = W :=
  AnyF.slices_SortFunc_none Tryz.sortEnt p c _ W
end Go.Proofs.YtmbfenkmabdokaaGreatDoor

namespace Go.Proofs.YtmbfenkmabdokaaGreatDoor
open Go.RowKit Go.Sort

theorem flatE_get (d : List (ByteArray × ByteArray)) (j : Nat) (h : j < d.length * 2) : (flatK entE 2 d.toArray)[j]! = (d.flatMap entE)[j]?.getD undef := by
  rw [get_flatK _ _ _ _ (by simpa using h)]
  induction d generalizing j with
  | nil => simp at h
  | cons x d ih =>
    rcases j with _ | _ | j
    · rfl
    · rfl
    · have hj : j < d.length * 2 := by simp at h; omega
      have := ih j hj
      rw [List.flatMap_cons]
      have e1 : (j + 1 + 1) / 2 = j / 2 + 1 := by omega
      have e2 : (j + 1 + 1) % 2 = j % 2 := by omega
      rw [e1, e2]
      have e3 : (x :: d).toArray[j / 2 + 1]! = d.toArray[j / 2]! := by simp
      rw [e3, this]
      simp [entE]
theorem entE_len (d : List (ByteArray × ByteArray)) : (d.flatMap entE).length = d.length * 2 := by
  induction d with
  | nil => rfl
  | cons x d ih => rw [List.flatMap_cons, List.length_append, ih]; simp [entE]; omega
theorem holdsE {W : World} {g : Nat} {cur : Array Value} {ty : TypeId} {d : List (ByteArray × ByteArray)} (hr : W.heap[g]? = some (.cells cur ty (0, 0))) (hc : cur.toList.take (d.length * 2) = d.flatMap entE) : HoldsK entE 2 W g 0 d.toArray := by
  intro j hj
  have hj' : j < d.length * 2 := by simpa using hj
  refine ⟨?_, by simp [World.frozen?, hr]⟩
  have hlen := entE_len d
  have hg : (d.flatMap entE)[j]? = cur[j]? := by
    rw [← hc, List.getElem?_take_of_lt hj']; simp
  rw [Nat.zero_add, World.cell?]; simp only [hr]
  rw [id, flatE_get d j hj', hg]
  have hsome : (d.flatMap entE)[j]?.isSome := by rw [List.getElem?_eq_getElem (by omega)]; rfl
  rw [hg] at hsome
  obtain ⟨v, hv⟩ := Option.isSome_iff_exists.1 hsome
  rw [hv]; rfl
end Go.Proofs.YtmbfenkmabdokaaGreatDoor

namespace Go.Proofs.YtmbfenkmabdokaaGreatDoor
open Go.RowKit Go.Sort

theorem below_sort {w W : World} {g n : Nat} {d : Array (ByteArray × ByteArray)} {os : Array Obj} (h : Below w.heap.size w W) (hg : w.heap.size ≤ g) :
    Below w.heap.size w (sortWorldK entE 2 W g 0 n d os) := by
  have hp : Below w.heap.size w (putRow id (Sort.ahead W n) g 0 (flatK entE 2 d)) := Lib.below_putRow h hg
  have hs := hp.size
  unfold sortWorldK putRowK
  refine ⟨hp.os, hp.tape, hp.output, ?_, fun k hk => ?_⟩
  · simp only [grow, Array.size_append]; omega
  · simp only [grow]; rw [Array.getElem?_append_left (by omega)]; exact hp.block k hk
end Go.Proofs.YtmbfenkmabdokaaGreatDoor

namespace Go.Proofs.YtmbfenkmabdokaaGreatDoor
open Go.RowKit Go.Mp

def entM' (p : Value × Value) : ByteArray × ByteArray := (match p.1 with | .string k => k | _ => ⟨#[]⟩, match p.2 with | .agg c => (match c.getD 0 undef with | .string v => v | _ => ⟨#[]⟩) | _ => ⟨#[]⟩)
def entsOf (V : List MapEntry) : KV := V.map fun e => entM' (e.key, e.val)
theorem ents_all {es : Array MapEntry} {M : KV} (h : Rep es (wantL M)) : entsOf es.toList = M := by
  have h1 : entsOf es.toList = (es.toList.map fun e => (e.key, e.val)).map entM' := by unfold entsOf; rw [List.map_map]; rfl
  rw [h1, h]
  unfold wantL
  rw [List.map_map, List.map_map]
  conv => rhs; rw [← List.map_id M]
  apply List.map_congr_left
  intro q _
  rfl
theorem ents_perm {es : Array MapEntry} {M : KV} {V : List MapEntry} (h : Rep es (wantL M)) (hp : V.Perm es.toList) : (entsOf V).Perm M := by
  have := hp.map fun e : MapEntry => entM' (e.key, e.val)
  rw [← ents_all h]; exact this
end Go.Proofs.YtmbfenkmabdokaaGreatDoor

namespace Go.Proofs.YtmbfenkmabdokaaGreatDoor
open Go.RowKit Go.Sort

def RowE (base : Nat) (W : World) (A : Option Addr) (d : Array (ByteArray × ByteArray)) : Prop :=
  d.size = 0 ∨ ∃ g, A = some ⟨g, 0, none⟩ ∧ base ≤ g ∧ g < W.heap.size ∧ HoldsK entE 2 W g 0 d
theorem perm_all {α : Type} [Inhabited α] {d d' : Array α} (h : PermIn 0 d.size d d') : d'.toList.Perm d.toList := by
  have h2 := h.2.2
  have e1 : d.extract 0 d.size = d := by simp
  have e2 : d'.extract 0 d.size = d' := by rw [← h.1]; simp
  rw [e1, e2] at h2; exact h2
theorem sort_row {w W : World} {base : Nat} {A : Option Addr} {c : Nat} {d : KV} (how : W.ownsRow base 90 2 (.slice A d.length c) d.length (d.flatMap entE)) (hbl : Below w.heap.size w W) (hbase : w.heap.size ≤ base) (hd : d.length ≤ 1000) :
    Calls Tryz.prog 105 #[.slice A d.length c, .func (.func 106) #[] #[]] W fun e w' =>
      e = .returned (.tuple #[]) ∧ ∃ d' : Array (ByteArray × ByteArray), d'.size = d.length ∧ d'.toList.Perm d ∧ SortedIn (ltOf entC) 0 d'.size d' ∧ RowE w.heap.size w' A d' ∧ Below w.heap.size w w' := by
  rcases how.2 with ⟨h0, h1⟩ | ⟨g, cap, cur, h0, hb, hr, _, _, _, hc⟩
  · have hd0 : d = [] := List.eq_nil_of_length_eq_zero h1
    subst hd0
    refine (sort_none A c W).mono ?_
    rintro e w' ⟨rfl, rfl⟩
    exact ⟨rfl, #[], rfl, List.Perm.nil, fun i j _ _ h => by simp at h, Or.inl rfl, hbl⟩
  · injection h0 with hA hn hc2
    subst hA; subst hc2
    have hg := lt_of_heap hr
    have hH := holdsE hr hc
    have hs := sort_ok W g c d.toArray hH hg (by simp; omega)
    rw [List.size_toArray] at hs
    refine hs.mono ?_
    rintro e w' ⟨rfl, d', n, os, hp, hso, rfl⟩
    have hsz : d'.size = d.length := by have := hp.1; simpa using this
    have hpa := perm_all (d := d.toArray) (d' := d') (by rw [List.size_toArray]; exact hp)
    refine ⟨rfl, d', hsz, hpa, by rw [hsz]; exact hso, Or.inr ⟨g, rfl, by omega, ?_, holdsK_sortWorldK_c entE 2 W g 0 d.toArray d' n os hH hg (by rw [List.size_toArray]; exact hsz)⟩, below_sort hbl (by omega)⟩
    exact Nat.lt_of_lt_of_le hg (size_sortWorldK_c entE 2 W g 0 n d' os)
end Go.Proofs.YtmbfenkmabdokaaGreatDoor

namespace Go.Proofs.YtmbfenkmabdokaaGreatDoor
open Go.RowKit Go.Mp

/-- what stands ahead of the first point -/
def tokOf (c : Bytes) : Bytes := c.takeWhile (· != 46)
theorem indexByte_cut : ∀ c : Bytes, (Lib.indexByte c 46 = -1 ∧ tokOf c = c) ∨ ∃ i : Nat, Lib.indexByte c 46 = i ∧ i < c.length ∧ tokOf c = c.take i
  | [] => .inl ⟨rfl, rfl⟩
  | x :: c => by
    by_cases h : x = 46
    · subst h
      exact .inr ⟨0, by simp [Lib.indexByte], by simp, by simp [tokOf]⟩
    · have hx : (x == 46) = false := by simp [h]
      have ht : tokOf (x :: c) = x :: tokOf c := by simp [tokOf, List.takeWhile_cons, h]
      rcases indexByte_cut c with ⟨h1, h2⟩ | ⟨i, h1, h2, h3⟩
      · refine .inl ⟨?_, by rw [ht, h2]⟩
        simp [Lib.indexByte, hx, h1]
      · refine .inr ⟨i + 1, ?_, by simp; omega, by rw [ht, h3]; rfl⟩
        have : ¬ ((i : Int) = -1) := by omega
        simp [Lib.indexByte, hx, h1, this]

theorem extract_take (s : ByteArray) (i : Nat) : s.extract 0 i = bs (s.data.toList.take i) := by
  apply ByteArray.ext
  rw [ByteArray.data_extract]
  apply Array.ext'
  simp

set_option maxRecDepth 100000 in
theorem Cut80_ok (w : World) (s : ByteArray) (hs : s.size ≤ 9223372036854775807) :
    Calls Tryz.prog 80 #[.string s, .string ⟨#[46]⟩] w fun e w' => (∃ b1 b2, e = .returned (.tuple #[.string (bs (tokOf s.data.toList)), .string b1, .bool b2])) ∧ Below w.heap.size w w' := by
  have cI := Tryz.stringslite_Index_one s 46 w
  rcases indexByte_cut s.data.toList with ⟨h1, h2⟩ | ⟨i, h1, h2, h3⟩
  · rw [h1] at cI
    have HC := Lib.hid cI; have H2 := Lib.hid h2
    clear cI h1 h2
    go_enter Tryz.func80, Tryz.ntmps80
    go_wp2_with first | (go_at_call 134; refine HC.out.mono ?_; rintro e w2 ⟨rfl, rfl⟩) | fail
    go_ret3
    exact ⟨⟨⟨#[]⟩, false, by rw [H2.out]; rfl⟩, Below.refl _ _⟩
  · rw [h1] at cI
    rw [size_len] at h2
    have HC := Lib.hid cI; have H3 := Lib.hid h3
    have e1 : IntKind.i64.wrap ((i : Int) + 1) = (i : Int) + 1 := IntWalk.i64_in _ (by omega)
    have e2 : (0 : Int) ≤ (i : Int) + 1 := by omega
    have e3 : (i : Int) + 1 ≤ (s.size : Int) := by omega
    have e4 : (i : Int) ≤ (s.size : Int) := by omega
    clear cI h1 h3
    go_enter Tryz.func80, Tryz.ntmps80
    go_wp2_with first | (go_at_call 134; refine HC.out.mono ?_; rintro e w2 ⟨rfl, rfl⟩) | fail
    go_quiet (fail)
    go_wp2
    go_ret3
    exact ⟨⟨_, true, by rw [H3.out, ← extract_take]; rfl⟩, below_draws (Below.refl _ _) nq⟩

theorem Cut_ok (w : World) (s : ByteArray) (hs : s.size ≤ 9223372036854775807) :
    Calls Tryz.prog 30 #[.string s, .string ⟨#[46]⟩] w fun e w' => (∃ b1 b2, e = .returned (.tuple #[.string (bs (tokOf s.data.toList)), .string b1, .bool b2])) ∧ Below w.heap.size w w' := by
  have HC := Lib.hid (Cut80_ok w s hs)
  go_enter Tryz.func30, Tryz.ntmps30
  go_wp2_with first | (go_at_call 80; refine HC.out.mono ?_; rintro e w2 ⟨⟨b1, b2, rfl⟩, hb⟩) | fail
  go_ret3
  exact ⟨⟨b1, b2, rfl⟩, hb⟩

/-- a cookie's token, or none -/
def tokenO (k c : Bytes) : Option Bytes := if isTok (tokOf c) = true ∧ cookieB k (tokOf c) = c then some (tokOf c) else none
def tokenE (k c : Bytes) : Ending := .returned (.tuple (match tokenO k c with | some t => #[.string (bs t), .int .i64 0] | none => #[.string ⟨#[]⟩, .int .i64 195]))
theorem tokOf_le (c : Bytes) : (tokOf c).length ≤ c.length := List.takeWhile_sublist _ |>.length_le

set_option maxRecDepth 100000 in
set_option maxHeartbeats 1000000 in
theorem Token_ok (w : World) (k c : ByteArray) (hk : k.size ≤ 140737488355100) (hc : c.size ≤ 140737488355328) :
    Calls Tryz.prog 11 #[.string k, .string c] w fun e w' => e = tokenE k.data.toList c.data.toList ∧ Below w.heap.size w w' := by
  have cC := Cut_ok w c (by omega)
  have htl := tokOf_le c.data.toList
  rw [size_len] at htl
  have hK := fun W => Cookie_ok W k (bs (tokOf c.data.toList)) hk (by rw [bs_size]; omega)
  have hCl := fun W => Clone_ok W (bs (tokOf c.data.toList)) (by rw [bs_size]; omega)
  have CC := Lib.hid cC; have HCL := Lib.hid hCl
  clear cC hCl
  by_cases hi : isTok (tokOf c.data.toList) = true
  · have hE : cookieE k.data.toList (tokOf c.data.toList) = .returned (.tuple #[.string (bs (cookieB k.data.toList (tokOf c.data.toList))), .int .i64 0]) := by unfold cookieE cookieO; rw [if_pos hi]
    have hK2 : ∀ W, Calls Tryz.prog 10 #[.string k, .string (bs (tokOf c.data.toList))] W fun e w' => e = .returned (.tuple #[.string (bs (cookieB k.data.toList (tokOf c.data.toList))), .int .i64 0]) ∧ Below W.heap.size W w' := fun W => by
      rw [← hE]; exact hK W
    have HK := Lib.hid hK2
    clear hK hK2 hE
    by_cases he : cookieB k.data.toList (tokOf c.data.toList) = c.data.toList
    · have hT : tokenE k.data.toList c.data.toList = .returned (.tuple #[.string (bs (tokOf c.data.toList)), .int .i64 0]) := by unfold tokenE tokenO; rw [if_pos ⟨hi, he⟩]
      rw [he] at HK
      have HT := Lib.hid hT
      clear hT he hi
      generalize bs (tokOf c.data.toList) = tt at *
      have hcc : bs c.data.toList = c := rfl
      rw [hcc] at HK
      clear hcc
      go_enter Tryz.func11, Tryz.ntmps11
      go_wp2_with fail
      refine CC.out.mono ?_
      rintro e w2 ⟨⟨b1, b2, rfl⟩, hb2⟩
      have HB2 := Lib.hid hb2
      clear hb2
      dsimp only
      go_wp2_with fail
      refine (HK.out _).mono ?_
      rintro e w3 ⟨rfl, hb3⟩
      have HB3 := Lib.hid hb3
      clear hb3
      dsimp only
      go_wp2_with fail
      refine (HCL.out _).mono ?_
      rintro e w4 ⟨rfl, hb4⟩
      have HB4 := Lib.hid hb4
      clear hb4
      dsimp only
      go_wp2_with fail
      go_ret2
      exact ⟨by rw [HT.out]; rfl, HB2.out.trans ((HB3.out.trans (HB4.out.mono HB3.out.size)).mono HB2.out.size)⟩
    · have hT : tokenE k.data.toList c.data.toList = .returned (.tuple #[.string ⟨#[]⟩, .int .i64 195]) := by unfold tokenE tokenO; rw [if_neg (fun h => he h.2)]
      have hne : (bs (cookieB k.data.toList (tokOf c.data.toList))).toList ≠ c.toList := by
        rw [toList_bs, Go.Lib.toList_data]; exact he
      have hne2 : ((bs (cookieB k.data.toList (tokOf c.data.toList))).toList == c.toList) = false := by
        rw [beq_eq_false_iff_ne]; exact hne
      have hne3 : (bs (cookieB k.data.toList (tokOf c.data.toList)) == c) = false := by
        rw [beq_bytes]; simp only [decide_eq_false_iff_not]
        intro h; exact he (bs_inj.1 (h.trans (bs_of c).symm))
      have HT := Lib.hid hT
      clear hT he hi
      generalize bs (tokOf c.data.toList) = tt at *
      generalize bs (cookieB k.data.toList (tokOf c.data.toList)) = cc at *
      go_enter Tryz.func11, Tryz.ntmps11
      go_wp2_with fail
      refine CC.out.mono ?_
      rintro e w2 ⟨⟨b1, b2, rfl⟩, hb2⟩
      have HB2 := Lib.hid hb2
      clear hb2
      dsimp only
      go_wp2_with fail
      refine (HK.out _).mono ?_
      rintro e w3 ⟨rfl, hb3⟩
      have HB3 := Lib.hid hb3
      clear hb3
      dsimp only
      go_wp2_with fail
      go_ret2
      exact ⟨by rw [HT.out]; rfl, HB2.out.trans (HB3.out.mono HB2.out.size)⟩
  · have hE : cookieE k.data.toList (tokOf c.data.toList) = .returned (.tuple #[.string ⟨#[]⟩, .int .i64 195]) := by unfold cookieE cookieO; rw [if_neg hi]
    have hK2 : ∀ W, Calls Tryz.prog 10 #[.string k, .string (bs (tokOf c.data.toList))] W fun e w' => e = .returned (.tuple #[.string ⟨#[]⟩, .int .i64 195]) ∧ Below W.heap.size W w' := fun W => by
      rw [← hE]; exact hK W
    have hT : tokenE k.data.toList c.data.toList = .returned (.tuple #[.string ⟨#[]⟩, .int .i64 195]) := by unfold tokenE tokenO; rw [if_neg (fun h => hi h.1)]
    have HK := Lib.hid hK2; have HT := Lib.hid hT
    clear hK hK2 hE hT hi
    generalize bs (tokOf c.data.toList) = tt at *
    go_enter Tryz.func11, Tryz.ntmps11
    go_wp2_with fail
    refine CC.out.mono ?_
    rintro e w2 ⟨⟨b1, b2, rfl⟩, hb2⟩
    have HB2 := Lib.hid hb2
    clear hb2
    dsimp only
    go_wp2_with fail
    refine (HK.out _).mono ?_
    rintro e w3 ⟨rfl, hb3⟩
    have HB3 := Lib.hid hb3
    clear hb3
    dsimp only
    go_wp2_with fail
    go_ret2
    exact ⟨by rw [HT.out]; rfl, HB2.out.trans (HB3.out.mono HB2.out.size)⟩
end Go.Proofs.YtmbfenkmabdokaaGreatDoor

namespace Go.Proofs.YtmbfenkmabdokaaGreatDoor
open Go.RowKit Go.Mp

theorem indexByte_pre (c : UInt8) : ∀ pre rest : Bytes, pre.count c = 0 → Lib.indexByte (pre ++ c :: rest) c = (pre.length : Int)
  | [], rest, _ => by simp [Lib.indexByte]
  | x :: pre, rest, h => by
    have hx : x ≠ c := fun e => by subst e; simp at h
    have hp : pre.count c = 0 := by rw [List.count_cons] at h; omega
    have ih := indexByte_pre c pre rest hp
    have hx2 : (x == c) = false := by simp [hx]
    have : ¬ ((pre.length : Int) = -1) := by omega
    simp [Lib.indexByte, hx2, ih, this]

set_option maxRecDepth 100000 in
theorem Cut0_in (w : World) (pre rest : Bytes) (hp : pre.count 0 = 0) (hs : pre.length + rest.length ≤ 1000000) :
    Calls Tryz.prog 80 #[.string (bs (pre ++ 0 :: rest)), .string ⟨#[0]⟩] w fun e w' => e = .returned (.tuple #[.string (bs pre), .string (bs rest), .bool true]) ∧ Below w.heap.size w w' := by
  have cI := Tryz.stringslite_Index_one (bs (pre ++ 0 :: rest)) 0 w
  have h1 : Lib.indexByte (bs (pre ++ 0 :: rest)).data.toList 0 = ((pre.length : Nat) : Int) := by
    have : (bs (pre ++ 0 :: rest)).data.toList = pre ++ 0 :: rest := by simp
    rw [this]; exact indexByte_pre 0 pre rest hp
  rw [h1] at cI
  have hsz : (bs (pre ++ 0 :: rest)).size = pre.length + 1 + rest.length := by rw [bs_size]; simp; omega
  have ha : (bs (pre ++ 0 :: rest)).extract 0 pre.length = bs pre := by
    rw [extract_take]; simp
  have hb : (bs (pre ++ 0 :: rest)).extract (pre.length + 1) (bs (pre ++ 0 :: rest)).size = bs rest := by
    apply ByteArray.ext
    rw [ByteArray.data_extract]
    apply Array.ext'
    rw [hsz]
    simp
    try (rw [List.drop_append, List.drop_of_length_le (by omega)]; simp)
    try rw [List.take_of_length_le (by omega)]
  have HA := Lib.hid ha; have HB := Lib.hid hb
  generalize hss : bs (pre ++ 0 :: rest) = ss at *
  generalize hi : pre.length = i at *
  have HC := Lib.hid cI
  have e1 : IntKind.i64.wrap ((i : Int) + 1) = (i : Int) + 1 := IntWalk.i64_in _ (by omega)
  have e2 : (0 : Int) ≤ (i : Int) + 1 := by omega
  have e3 : (i : Int) + 1 ≤ (ss.size : Int) := by omega
  have e4 : (i : Int) ≤ (ss.size : Int) := by omega
  have HSS := Lib.hid hss
  clear cI h1 ha hb hsz hs hss hi hp
  go_enter Tryz.func80, Tryz.ntmps80
  go_wp2_with first | (go_at_call 134; refine HC.out.mono ?_; rintro e w2 ⟨rfl, rfl⟩) | fail
  go_quiet (fail)
  go_wp2
  go_ret3
  refine ⟨?_, below_draws (Below.refl _ _) nq⟩
  rw [← HA.out, ← HB.out]; rfl

set_option maxRecDepth 100000 in
theorem Cut0_ok (w : World) (pre rest : Bytes) (hp : pre.count 0 = 0) (hs : pre.length + rest.length ≤ 1000000) :
    Calls Tryz.prog 30 #[.string (bs (pre ++ 0 :: rest)), .string ⟨#[0]⟩] w fun e w' => e = .returned (.tuple #[.string (bs pre), .string (bs rest), .bool true]) ∧ Below w.heap.size w w' := by
  have HC := Lib.hid (Cut0_in w pre rest hp hs)
  clear hp hs
  generalize bs (pre ++ 0 :: rest) = ss at *
  go_enter Tryz.func30, Tryz.ntmps30
  go_wp2_with first | (go_at_call 80; refine HC.out.mono ?_; rintro e w2 ⟨rfl, hb⟩) | fail
  go_ret3
  exact ⟨rfl, hb⟩
end Go.Proofs.YtmbfenkmabdokaaGreatDoor

namespace Go.Proofs.YtmbfenkmabdokaaGreatDoor
open Go.RowKit Go.Mp

set_option maxRecDepth 100000 in
set_option maxHeartbeats 1000000 in
theorem text_ok (w : World) (pre rest : Bytes) (hp : pre.count 0 = 0) (hs : pre.length + rest.length ≤ 1000) :
    Calls Tryz.prog 109 #[.string (bs (pre ++ 0 :: 0 :: rest))] w fun e w' => e = .returned (.tuple #[.string (bs pre), .string (bs rest), .bool true]) ∧ Below w.heap.size w w' := by
  have cC := fun W => Cut0_ok W pre (0 :: rest) hp (by simp; omega)
  have hr1 : (bs (0 :: rest)).toList.isEmpty = false := by rw [Go.Lib.toList_data]; simp
  have hr2 : (bs (0 :: rest)).extract 1 (bs (0 :: rest)).size = bs rest := by
    apply ByteArray.ext
    rw [ByteArray.data_extract]
    apply Array.ext'
    rw [bs_size]; simp
  have hr3 : 0 < (bs (0 :: rest)).size := by rw [bs_size]; simp
  have hr4 : ((bs (0 :: rest))[0]'hr3) = 0 := by simp [ByteArray.getElem_eq_getElem_data]
  have hr5 : (1 : Int) ≤ ((bs (0 :: rest)).size : Int) := by omega
  have hb0 := Bd.new w
  have hz0 : Below w.heap.size w (w.alloc (.cells #[.pointer none, .slice none 0 0] 116)) := (Below.refl _ _).alloc (Nat.le_refl _) _
  have CC := Lib.hid cC; have HR2 := Lib.hid hr2; have HBD := Lib.hid hb0; have HZ := Lib.hid hz0; have HPL : RowKit.Hid (pre.length ≤ 1000) := Lib.hid (by omega)
  clear cC hr2 hb0 hz0 hp hs
  generalize bs (0 :: rest) = rr at *
  generalize hss : bs (pre ++ 0 :: 0 :: rest) = ss at *
  have HSS := Lib.hid hss
  clear hss
  go_enter Tryz.func109, Tryz.ntmps109
  go_wp2
  go_loopw [0] (fun v wr => v = .string ss ∧ wr = w.alloc (.cells #[.pointer none, .slice none 0 0] 116)) (fun _ _ => 0)
  case atStart => exact ⟨rfl, rfl⟩
  case round =>
    obtain ⟨rfl, rfl⟩ := hrel
    go_wp2_with fail
    refine (CC.out _).mono ?_
    rintro e w1 ⟨rfl, hb1⟩
    have hbd1 := HBD.out.below hb1
    have hw1 := HZ.out.trans (hb1.mono HZ.out.size)
    have hr6 : w1.heap.size ≠ w.heap.size := by have := hbd1.lt; omega
    have cJ := join_ok (w1.alloc (.cells #[.string (bs pre)] 9)) w.heap.size w1.heap.size [] [bs pre] _ rfl (hbd1.below ((Below.refl _ _).alloc (Nat.le_refl _) _)) (heap_alloc_new w1 _) hr6 (by have := HPL.out; simp [catB]; omega) (by simp)
    have hcat : [] ++ catB [bs pre] = pre := by simp [catB]
    rw [hcat] at cJ
    have CJ := Lib.hid cJ; have HW1 := Lib.hid (hw1.alloc hw1.size (.cells #[.string (bs pre)] 9))
    clear cJ hb1 hbd1 hw1 hcat
    dsimp only
    go_wp2_with fail
    refine CJ.out.mono ?_
    rintro e w2 ⟨rfl, hbd2, hk2⟩
    have hw2 := HW1.out.trans hk2.1
    have HW2 := Lib.hid hw2; have HBD2 := Lib.hid hbd2
    clear hw2 hk2 hbd2
    dsimp only
    go_wp2_with fail
    have hle : ¬ ((rr.size : Int) < 1) := by omega
    obtain ⟨S, hSd⟩ : ∃ S : World → Prop, ∀ w', S w' ↔ True := ⟨fun _ => True, fun _ => Iff.rfl⟩
    have hS : S w2.drew := (hSd _).2 trivial
    have mkS : ∀ W, S W := fun W => (hSd _).2 trivial
    have HSd := Lib.hid hSd; have MKS := Lib.hid mkS
    clear hSd mkS
    refine wp_region_I (by kernel_rfl) S 99 ?_
    refine wpAnyS_take 1 (v := ?_) rfl (by kernel_rfl) (by kernel_rfl) (by kernel_rfl) rfl (fun _ _ _ h => h) (.inl ⟨rfl, fun w' hS' => ?_⟩) hS ?_; rotate_left 1; focus (have hf := (HSd.out w').1 hS'; (repeat (obtain ⟨_, hf⟩ := hf)); go_simp; (try rfl))
    refine wpAnyS_take 2 (v := ?_) rfl (by kernel_rfl) (by kernel_rfl) (by kernel_rfl) rfl (fun _ _ _ h => h) (.inl ⟨rfl, fun w' hS' => ?_⟩) hS ?_; rotate_left 1; focus (have hf := (HSd.out w').1 hS'; (repeat (obtain ⟨_, hf⟩ := hf)); go_simp; (try rfl))
    refine wpAnyI_one 0 (by kernel_rfl) (wpOp_step rfl (fun K hK => ?_)); go_simp
    refine (BString_ok _ w.heap.size pre (HBD2.out.below (Below.refl _ _).drew)).mono ?_
    rintro e w3 ⟨rfl, _, hk3⟩
    have HB3 := Lib.hid (HW2.out.trans ((((Below.refl w2.heap.size w2).drew).mono HW2.out.size).trans hk3.1))
    clear hk3
    refine hK _ _ ⟨fun _ => MKS.out _, ?_⟩; clear hK K
    have hS : S w3 := MKS.out _
    refine wpAnyS_take 3 (v := ?_) rfl (by kernel_rfl) (by kernel_rfl) (by kernel_rfl) rfl (fun _ _ _ h => h) (.inl ⟨rfl, fun w' hS' => ?_⟩) hS ?_; rotate_left 1; focus (have hf := (HSd.out w').1 hS'; (repeat (obtain ⟨_, hf⟩ := hf)); go_simp; (try rfl))
    refine wpAnyS_take 4 (v := ?_) rfl (by kernel_rfl) (by kernel_rfl) (by kernel_rfl) rfl (fun _ _ _ h => h) (.inl ⟨rfl, fun w' hS' => ?_⟩) hS ?_; rotate_left 1; focus (have hf := (HSd.out w').1 hS'; (repeat (obtain ⟨_, hf⟩ := hf)); go_simp; (try rfl))
    refine wpAnyS_take 5 (v := ?_) rfl (by kernel_rfl) (by kernel_rfl) (by kernel_rfl) rfl (fun _ _ _ h => h) (.inl ⟨rfl, fun w' hS' => ?_⟩) hS ?_; rotate_left 1; focus (have hf := (HSd.out w').1 hS'; (repeat (obtain ⟨_, hf⟩ := hf)); go_simp; (try rfl))
    refine wpAnyI_done (by kernel_rfl) ?_ _
    go_simp
    go_wp2
    go_ret3
    exact ⟨by rw [← HR2.out]; rfl, HB3.out⟩
end Go.Proofs.YtmbfenkmabdokaaGreatDoor

namespace Go.Proofs.YtmbfenkmabdokaaGreatDoor
open Go.RowKit Go.Mp

theorem src_row {w : World} {T e : TypeId} {nb : Nat} {cs : Array Value} {fr : Nat × Nat} (hT : Tryz.prog.underlying T = some (.slice e)) (h : w.heap[nb]? = some (.cells cs e fr)) (hall : cs.all (·.oneCell') = true) :
    Src Tryz.prog cs.size T (.slice (some ⟨nb, 0, none⟩) 1 1) 1 cs.toList w := by
  refine Src.ofSlice w hT _ _ 1 _ (by simp) (fun j u hu => ?_) (fun u hu => ?_)
  · rw [Addr.add_lit, Nat.zero_add, World.cell?]; simp only [h]; simpa using hu
  · rw [Array.all_eq_true'] at hall; exact hall u (by simpa using hu)

theorem info_part : (Tryz.prog.info? 85).map (fun i => (i.zero, i.size, i.bytes)) = some (some (.agg #[.int .i64 0, .int .i64 0, .string ⟨#[]⟩]), 3, 32) := by kernel_rfl

theorem info_part' : ∃ i, Tryz.prog.info? 85 = some i ∧ i.zero = some (.agg #[.int .i64 0, .int .i64 0, .string ⟨#[]⟩]) ∧ i.size = 3 ∧ i.bytes = 32 := by
  have h := info_part
  cases hi : Tryz.prog.info? 85 with
  | none => rw [hi] at h; cases h
  | some i => rw [hi] at h; simp at h; exact ⟨i, rfl, h.1, h.2.1, h.2.2⟩
theorem own_form3 {w : World} {base : Nat} {e : TypeId} {size : Nat} {v : Value} {n : Nat} {xs : List Value} (h : w.ownsRow base e size v n xs) : ∃ A c, v = .slice A n c := by
  rcases h.2 with ⟨h0, h1⟩ | ⟨g, cap, cur, h0, _⟩
  · exact ⟨none, 0, by rw [h0, h1]⟩
  · exact ⟨_, _, h0⟩
def rdRel (w : World) (ts : List Bytes) (k : Nat) (kv v : Value) (wr : World) : Prop :=
  kv = .string (bs (keyT (ts.drop k))) ∧ wr.ownsRow w.heap.size 85 3 v k ((ts.take k).flatMap partC) ∧ Below w.heap.size w wr

theorem keyT_drop (ts : List Bytes) (k : Nat) (h : k < ts.length) : keyT (ts.drop k) = 2 :: (ts[k] ++ 0 :: 0 :: keyT (ts.drop (k + 1))) := by
  rw [keyT, List.drop_eq_getElem_cons h, List.flatMap_cons]; simp [partB, keyT]

set_option maxRecDepth 100000 in
set_option maxHeartbeats 2000000 in
theorem Read_key (w : World) (ts : List Bytes) (h1 : 1 ≤ ts.length) (h8 : ts.length ≤ 8) (hlen : (keyT ts).length ≤ 100) (hz : ∀ t ∈ ts, t.count 0 = 0) :
    Calls Tryz.prog 57 #[.string (bs (keyT ts))] w fun e w' => ∃ v, e = .returned (.tuple #[v, .int .i64 0]) ∧ w'.ownsRow w.heap.size 85 3 v ts.length (ts.flatMap partC) ∧ Below w.heap.size w w' := by
  have hsz : (bs (keyT ts)).size ≤ 100 := by rw [bs_size]; exact hlen
  have hstart : rdRel w ts 0 (.string (bs (keyT ts))) (.slice none 0 0) w := ⟨by rw [List.drop_zero], World.ownsRow_nil _ _ _ _, Below.refl _ _⟩
  have HST := Lib.hid hstart; have HZ := Lib.hid hz; have HLEN := Lib.hid hlen
  clear hstart hz hlen
  generalize bs (keyT ts) = kk at *
  go_enter Tryz.func57, Tryz.ntmps57
  go_wp2
  go_loopw [0, 4] (fun kv v wr => ∃ k : Nat, k ≤ ts.length ∧ rdRel w ts k kv v wr) (fun kv _ _ => match kv with | .string s => s.size | _ => 0)
  case atStart => exact ⟨0, by omega, HST.out⟩
  case round =>
    obtain ⟨k, hk, rfl, how, hb⟩ := hrel
    obtain ⟨A4, c4, rfl⟩ := own_form3 how
    by_cases hlt : k < ts.length
    · have hkd := keyT_drop ts k hlt
      have hzt := HZ.out ts[k] (List.getElem_mem hlt)
      have htk : (ts.take (k + 1)).flatMap partC = (ts.take k).flatMap partC ++ partC ts[k] := by rw [List.take_succ_eq_append_getElem hlt, List.flatMap_append]; simp
      have hle : (keyT (ts.drop k)).length ≤ 100 := by
        have e : keyT ts = keyT (ts.take k) ++ keyT (ts.drop k) := by unfold keyT; rw [← List.flatMap_append, List.take_append_drop]
        have := HLEN.out; rw [e, List.length_append] at this; omega
      rw [hkd] at hle ⊢
      have hsh : (keyT (ts.drop (k + 1))).length < (2 :: (ts[k] ++ 0 :: 0 :: keyT (ts.drop (k + 1)))).length := by simp; omega
      have HSH := Lib.hid hsh; have HTK := Lib.hid htk
      have cX := Lib.hid (fun W => text_ok W ts[k] (keyT (ts.drop (k + 1))) hzt (by simp at hle; omega))
      have e1 : (bs (2 :: (ts[k] ++ 0 :: 0 :: keyT (ts.drop (k + 1))))).toList.isEmpty = false := by rw [Go.Lib.toList_data]; simp
      have e2 : 0 < (bs (2 :: (ts[k] ++ 0 :: 0 :: keyT (ts.drop (k + 1))))).size := by rw [bs_size]; simp
      have e3 : ((bs (2 :: (ts[k] ++ 0 :: 0 :: keyT (ts.drop (k + 1)))))[0]'e2) = 2 := by simp [ByteArray.getElem_eq_getElem_data]
      have e4 : (bs (2 :: (ts[k] ++ 0 :: 0 :: keyT (ts.drop (k + 1))))).extract 1 (bs (2 :: (ts[k] ++ 0 :: 0 :: keyT (ts.drop (k + 1))))).size = bs (ts[k] ++ 0 :: 0 :: keyT (ts.drop (k + 1))) := by
        apply ByteArray.ext
        rw [ByteArray.data_extract]
        apply Array.ext'
        rw [bs_size]; simp
        rw [List.take_of_length_le (by simp)]
      have e6 : (bs (2 :: (ts[k] ++ 0 :: 0 :: keyT (ts.drop (k + 1))))).size = (2 :: (ts[k] ++ 0 :: 0 :: keyT (ts.drop (k + 1)))).length := bs_size _
      have HK0 := Lib.hid e6
      clear e6
      have e5 : (1 : Int) ≤ ((bs (2 :: (ts[k] ++ 0 :: 0 :: keyT (ts.drop (k + 1))))).size : Int) := by omega
      have HOW := Lib.hid how; have HB := Lib.hid hb
      clear how hb hkd hzt htk hle hsh
      generalize hrest : keyT (ts.drop (k + 1)) = rest at *
      have HRE := Lib.hid hrest
      clear hrest
      generalize ts[k] = tk at *
      generalize bs (tk ++ 0 :: 0 :: rest) = k1 at *
      generalize bs (2 :: (tk ++ 0 :: 0 :: rest)) = k0 at *
      go_wp2_with fail
      refine (cX.out _).mono ?_
      rintro e w2 ⟨rfl, hb2⟩
      have hp2 := heap_below (heap_alloc_new wr (.cells #[.int .i64 2, .int .i64 0, .string ⟨#[]⟩] 85)) hb2
      have hbr : Below wr.heap.size wr w2 := ((Below.refl _ _).alloc (Nat.le_refl _) _).trans (hb2.mono (by simp))
      have c2 : w2.cell? ⟨wr.heap.size, 2, none⟩ = some (.string ⟨#[]⟩) := by rw [World.cell?]; simp only [hp2]; rfl
      have f2 : w2.frozen? ⟨wr.heap.size, 2, none⟩ = false := by simp [World.frozen?, hp2]
      have hrow := setCell_row hp2 2 (.string (bs tk))
      have hK : Below wr.heap.size wr (w2.setCell ⟨wr.heap.size, 2, none⟩ (.string (bs tk))) := by
        rw [setCell_eq_setRow _ _ _ _ _ _ _ hp2]; exact below_setRow hbr (Nat.le_refl _) _
      have hip : (Tryz.prog.info? 85).map (·.size) = some (partC tk).toArray.size := by kernel_rfl
      have HROW : RowKit.Hid ((w2.setCell ⟨wr.heap.size, 2, none⟩ (.string (bs tk))).heap[wr.heap.size]? = some (.cells #[.int .i64 2, .int .i64 0, .string (bs tk)] 85 (0, 0))) := Lib.hid hrow
      have ow3 : ((w2.setCell ⟨wr.heap.size, 2, none⟩ (.string (bs tk))).alloc (.cells #[.int .i64 2, .int .i64 0, .string (bs tk)] 85)).ownsRow w.heap.size 85 3 (.slice A4 k c4) k ((ts.take k).flatMap partC) :=
        ownsRow_below (ownsRow_below HOW.out hK) ((Below.refl _ _).alloc (Nat.le_refl _) _)
      have hn3 := heap_alloc_new (w2.setCell ⟨wr.heap.size, 2, none⟩ (.string (bs tk))) (.cells #[.int .i64 2, .int .i64 0, .string (bs tk)] 85)
      have hz3 : (w2.setCell ⟨wr.heap.size, 2, none⟩ (.string (bs tk))).heap.size = w2.heap.size := by simp
      rw [hz3] at hn3
      have hsrc := src_row (T := 86) Tryz.underlying86 hn3 (by kernel_rfl)
      have hwb : Below w.heap.size w (w2.setCell ⟨wr.heap.size, 2, none⟩ (.string (bs tk))) := HB.out.trans (hK.mono HB.out.size)
      have hbb : Below w.heap.size w ((w2.setCell ⟨wr.heap.size, 2, none⟩ (.string (bs tk))).alloc (.cells #[.int .i64 2, .int .i64 0, .string (bs tk)] 85)) := hwb.alloc hwb.size _
      have hbs := hbb.size
      obtain ⟨ip, hip1, hip2, hip3, hip4⟩ := info_part'
      have HBB := Lib.hid hbb; have OW3 := Lib.hid ow3; have HSRC := Lib.hid hsrc; have HBS := Lib.hid hbs
      clear hb2 hp2 hbr hrow hK hn3 hz3 hsrc hwb hbb hbs ow3
      dsimp only
      go_wp2_with first | (refine wpList_load_row rfl 85 _ rfl wr.heap.size rfl _ #[.int .i64 2, .int .i64 0, .string (bs tk)] _ _ HROW.out Tryz.underlying85 rfl hip ?_) | (at_builtin; refine wpList_append_src _ rfl (.tmp 41) (.tmp 43) 86 86 rfl w.heap.size 85 ip (.agg #[.int .i64 0, .int .i64 0, .string ⟨#[]⟩]) 3 32 Tryz.underlying86 hip1 hip2 hip3 hip4 rfl _ _ k ((ts.take k).flatMap partC) rfl rfl OW3.out 1 _ HSRC.out ?_ ?_ HBS.out ?_) | fail
      · unfold maxLen; omega
      · omega
      intro v3 w3 ow3 hg3
      have hb3 : Below w.heap.size w w3 := HBB.out.grown hg3 HBS.out (fun k hk => (OW3.out.lt k hk).1)
      obtain ⟨A5, c5, rfl⟩ := own_form3 ow3
      have ow3' : w3.ownsRow w.heap.size 85 3 (.slice A5 (k + 1) c5) (k + 1) ((ts.take (k + 1)).flatMap partC) := by rw [HTK.out]; exact ow3
      have OWN := Lib.hid ow3'; have HB3 := Lib.hid hb3
      clear ow3 ow3' hb3 hg3 hip1 hip2 hip3 hip4
      have hk8 : k + 1 ≤ 8 := by omega
      go_wp2
      go_roundw
      case rel => first | exact ⟨k + 1, by omega, by rw [HRE.out], OWN.out, HB3.out⟩ | ((repeat apply Exists.intro); exact ⟨⟨k + 1, by omega, by rw [HRE.out], OWN.out, HB3.out⟩, rfl⟩)
      case measure => have h1 := HK0.out; have h2 := HSH.out; have h3 := bs_size rest; simp; omega
    · obtain rfl : k = ts.length := by omega
      have hd : bs (keyT (ts.drop ts.length)) = ⟨#[]⟩ := by rw [List.drop_length]; rfl
      rw [hd]
      rw [List.take_length] at how
      have e1 : (⟨#[]⟩ : ByteArray).toList.isEmpty = true := by rw [Go.Lib.toList_data]; rfl
      have HOW := Lib.hid how; have HB := Lib.hid hb
      clear how hb hd
      have hne : ¬ ts.length = 0 := by omega
      go_wp2_with fail
      go_ret2
      exact ⟨_, rfl, HOW.out, HB.out⟩

theorem Read_place (w : World) (tk : Bytes) (ht : isTok tk = true) :
    Calls Tryz.prog 57 #[.string (bs (placeB tk))] w fun e w' => ∃ v, e = .returned (.tuple #[v, .int .i64 0]) ∧ w'.ownsRow w.heap.size 85 3 v 2 (partC sessW ++ partC tk) ∧ Below w.heap.size w w' := by
  have hl := tok_len tk ht
  refine (Read_key w [sessW, tk] (by simp) (by simp) (by simp [keyT, partB, sessW, hl]) ?_).mono fun e w' h => ?_
  · intro x hx; simp at hx; rcases hx with rfl | rfl
    · decide
    · exact tok_nz _ ht
  · simpa using h
end Go.Proofs.YtmbfenkmabdokaaGreatDoor
