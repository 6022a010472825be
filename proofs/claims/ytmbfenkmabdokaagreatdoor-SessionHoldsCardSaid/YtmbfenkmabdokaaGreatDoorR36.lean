/- Parts of the proof: EndP, Ends. -/
import Derived.Test.YtmbfenkmabdokaaGreatDoorR27
set_option linter.all false
namespace Go.Proofs.YtmbfenkmabdokaaGreatDoor
open Go.RowKit Go.Mp

def drI (i : Nat) : Bytes := UInt8.ofNat i :: [0, 0, 0, 0, 0, 0, 0, 0, 0, 0, 0, 0, 0, 0, 0]
def tkI (i : Nat) : Bytes := hexB (drI i)
def sesI (p : Nat × Nat) : Bytes × Sess := (tkI p.1, newS ⟨#[97, 110, 110]⟩ 3 (p.2 : Int) 0 0)
def LE (E : List (Nat × Nat)) : SL := E.map sesI
theorem tokI (i : Nat) : isTok (tkI i) = true := tok_of_hex (drI i) rfl
theorem tkI_inj {i j : Nat} (hi : i < 20) (hj : j < 20) (h : tkI i = tkI j) : i = j := by
  have h1 := hexB_inj _ _ h
  unfold drI at h1
  have h2 := (List.cons.inj h1).1
  have h3 := congrArg UInt8.toNat h2
  simp at h3
  omega
theorem getE_none {E : List (Nat × Nat)} {k : Nat} (h : ∀ p ∈ E, p.1 < k) (hk : k < 20) : getL (LE E) (tkI k) = none := by
  unfold getL
  simp only [Option.map_eq_none_iff, List.find?_eq_none]
  intro q hq
  obtain ⟨p, hp, rfl⟩ := List.mem_map.1 hq
  have h1 := h p hp
  simp only [decide_eq_true_eq]
  intro e
  have := tkI_inj hk (by omega) e
  omega
theorem nodE {E : List (Nat × Nat)} (h : E.Pairwise fun p q => p.1 < q.1) (hk : ∀ p ∈ E, p.1 < 20) : ((LE E).map (·.1)).Nodup := by
  unfold LE
  rw [List.map_map]
  refine List.pairwise_map.2 (List.Pairwise.imp_of_mem (fun {p q} hp hq hpq => ?_) h)
  intro e
  have := tkI_inj (hk p hp) (hk q hq) e
  omega
theorem en0 (E : List (Nat × Nat)) (k : Nat) (z : Int) (h : getL (LE E) (tkI k) = none) (hl : E.length ≤ 20) (hz : 0 ≤ z ∧ z ≤ 1125899906842624) : issueR (LE E) (drI k) ⟨#[97, 110, 110]⟩ 3 z 0 0 = 0 := by
  unfold issueR issueC
  refine firstN_zero fun j hj => ?_
  obtain rfl | rfl | rfl | rfl | rfl | rfl | rfl : j = 0 ∨ j = 1 ∨ j = 2 ∨ j = 3 ∨ j = 4 ∨ j = 5 ∨ j = 6 := by omega
  · rfl
  · rfl
  · show (if isName (⟨#[97, 110, 110]⟩ : ByteArray).data.toList then 0 else 171) = (0 : Int)
    rw [show isName (⟨#[97, 110, 110]⟩ : ByteArray).data.toList = true by kernel_rfl]; rfl
  · rfl
  · show (if (decide (0 ≤ z ∧ z ≤ 1125899906842624) && (decide ((0 : Int) ≤ 0 ∧ (0 : Int) ≤ 1099511627776) && decide ((0 : Int) ≤ 0 ∧ (0 : Int) ≤ 1125899906842624))) then 0 else 1) = (0 : Int)
    rw [decide_eq_true hz]; rfl
  · show (match getL (LE E) (tkI k) with | none => 0 | some _ => 190) = (0 : Int)
    rw [h]
  · show (if decide ((LE E).length < 100) then 0 else 2) = (0 : Int)
    rw [decide_eq_true (by unfold LE; rw [List.length_map]; omega)]; rfl
theorem en1 (E : List (Nat × Nat)) (k : Nat) (z : Int) (hz : ¬ (0 ≤ z ∧ z ≤ 1125899906842624)) : issueR (LE E) (drI k) ⟨#[97, 110, 110]⟩ 3 z 0 0 = 1 := by
  unfold issueR issueC
  have h4 : issueN (LE E) (drI k).length (hexB (drI k)) (⟨#[97, 110, 110]⟩ : ByteArray).data.toList 3 z 0 0 4 = 1 := by
    show (if (decide (0 ≤ z ∧ z ≤ 1125899906842624) && (decide ((0 : Int) ≤ 0 ∧ (0 : Int) ≤ 1099511627776) && decide ((0 : Int) ≤ 0 ∧ (0 : Int) ≤ 1125899906842624))) then 0 else 1) = (1 : Int)
    rw [decide_eq_false hz]; rfl
  rw [firstN_at (k := 4) (by omega) ?_ (by rw [h4]; decide), h4]
  intro j hj
  obtain rfl | rfl | rfl | rfl : j = 0 ∨ j = 1 ∨ j = 2 ∨ j = 3 := by omega
  · rfl
  · rfl
  · show (if isName (⟨#[97, 110, 110]⟩ : ByteArray).data.toList then 0 else 171) = (0 : Int)
    rw [show isName (⟨#[97, 110, 110]⟩ : ByteArray).data.toList = true by kernel_rfl]; rfl
  · rfl
theorem en0E (E : List (Nat × Nat)) (k : Nat) (z : Int) (key : ByteArray) (h : issueR (LE E) (drI k) ⟨#[97, 110, 110]⟩ 3 z 0 0 = 0) : issueE (LE E) key (drI k) ⟨#[97, 110, 110]⟩ 3 z 0 0 = #[.string (bs (cookieB key.data.toList (tkI k))), .int .i64 0] := by
  unfold issueE; rw [h]; rfl
theorem en0S (E : List (Nat × Nat)) (k : Nat) (z : Nat) (hn : getL (LE E) (tkI k) = none) (h : issueR (LE E) (drI k) ⟨#[97, 110, 110]⟩ 3 (z : Int) 0 0 = 0) : issueS (LE E) (drI k) ⟨#[97, 110, 110]⟩ 3 (z : Int) 0 0 = LE (E ++ [(k, z)]) := by
  unfold issueS; rw [if_pos h]
  show putL (LE E) (tkI k) _ = _
  rw [putL_new _ hn]
  unfold LE; rw [List.map_append]; rfl
theorem en1E (E : List (Nat × Nat)) (k : Nat) (z : Int) (key : ByteArray) (h : issueR (LE E) (drI k) ⟨#[97, 110, 110]⟩ 3 z 0 0 = 1) : issueE (LE E) key (drI k) ⟨#[97, 110, 110]⟩ 3 z 0 0 = #[.string ⟨#[]⟩, .int .i64 1] := by
  unfold issueE; rw [h]; rfl
theorem en1S (E : List (Nat × Nat)) (k : Nat) (z : Int) (h : issueR (LE E) (drI k) ⟨#[97, 110, 110]⟩ 3 z 0 0 = 1) : issueS (LE E) (drI k) ⟨#[97, 110, 110]⟩ 3 z 0 0 = LE E := by
  unfold issueS; rw [h]; rfl
def oldE (now : Int) (p : Nat × Nat) : Bool := decide ((p.2 : Int) ≤ now)
theorem old_ses (now : Int) (p : Nat × Nat) : oldS now (sesI p).2 = oldE now p := rfl
theorem auth_len (now : Int) {E : List (Nat × Nat)} {l : SL} (h : l.Perm (LE E)) : (authV now l).length = (E.filter (oldE now)).length := by
  unfold authV
  rw [List.length_map, (h.filter _).length_eq]
  unfold LE
  rw [List.filter_map, List.length_map]
  rfl
theorem part_len {α : Type} (f : α → Bool) : ∀ l : List α, (l.filter fun x => !f x).length + (l.filter f).length = l.length
  | [] => rfl
  | x :: l => by
    have ih := part_len f l
    rw [List.filter_cons, List.filter_cons]
    cases h : f x <;> simp <;> omega
theorem rest_len (now : Int) (E : List (Nat × Nat)) : ((LE E).filter fun p => !oldS now p.2).length = E.length - (E.filter (oldE now)).length := by
  have h : ((LE E).filter fun p => !oldS now p.2).length = (E.filter fun p => !oldE now p).length := by
    unfold LE; rw [List.filter_map, List.length_map]; rfl
  rw [h]
  have := part_len (oldE now) E
  omega
theorem find_old {E : List (Nat × Nat)} {now t : Int} {p : Nat × Nat} {k : Bytes} (ho : ((LE E).map (·.1)).Nodup) (hp : p ∈ E) (h : (p.2 : Int) ≤ now) :
    findR ((LE E).filter fun p => !oldS now p.2) k (cookieB k (tkI p.1)) t = (zeroS, 190) := by
  refine findR_none _ _ _ _ (tokI _) ?_
  have hm : sesI p ∈ LE E := List.mem_map_of_mem hp
  have hg := getL_of_mem ho hm
  rw [getL_filter ho]
  rw [show tkI p.1 = (sesI p).1 from rfl, hg]
  show (if (!oldS now (sesI p).2) = true then some (sesI p).2 else none) = none
  rw [old_ses, oldE, decide_eq_true h]; rfl
theorem get_new {E : List (Nat × Nat)} {now : Int} {p : Nat × Nat} (ho : ((LE E).map (·.1)).Nodup) (hp : p ∈ E) (h : ¬ (p.2 : Int) ≤ now) :
    getL ((LE E).filter fun p => !oldS now p.2) (tkI p.1) = some (sesI p).2 := by
  have hm : sesI p ∈ LE E := List.mem_map_of_mem hp
  have hg := getL_of_mem ho hm
  rw [getL_filter ho]
  rw [show tkI p.1 = (sesI p).1 from rfl, hg]
  show (if (!oldS now (sesI p).2) = true then some (sesI p).2 else none) = _
  rw [old_ses, oldE, decide_eq_false h]; rfl
theorem ends_ses (p : Nat × Nat) : (sesI p).2.ends = p.2 := by show ((p.2 : Int)).toNat = p.2; omega
theorem find_late {E : List (Nat × Nat)} {now t : Int} {p : Nat × Nat} {k : Bytes} (ho : ((LE E).map (·.1)).Nodup) (hp : p ∈ E) (h : ¬ (p.2 : Int) ≤ now) (ht : (p.2 : Int) ≤ t) :
    findR ((LE E).filter fun p => !oldS now p.2) k (cookieB k (tkI p.1)) t = (zeroS, 191) :=
  findR_late _ _ _ _ _ (tokI _) (get_new ho hp h) (by rw [ends_ses]; exact ht)
theorem find_new {E : List (Nat × Nat)} {now t : Int} {p : Nat × Nat} {k : Bytes} (ho : ((LE E).map (·.1)).Nodup) (hp : p ∈ E) (h : ¬ (p.2 : Int) ≤ now) (ht : t < (p.2 : Int)) :
    findR ((LE E).filter fun p => !oldS now p.2) k (cookieB k (tkI p.1)) t = (sessC (bs (tkI p.1)) (sesI p).2, 0) :=
  findR_cookie _ _ _ _ _ (tokI _) (get_new ho hp h) (by rw [ends_ses]; exact ht)
theorem take_old (now : Int) (E : List (Nat × Nat)) (i : Nat) (h : i < E.length) : ((E.take (i + 1)).filter (oldE now)).length = ((E.take i).filter (oldE now)).length + if (E[i].2 : Int) ≤ now then 1 else 0 := by
  rw [List.take_succ_eq_append_getElem h, List.filter_append, List.length_append]
  congr 1
  by_cases hh : (E[i].2 : Int) ≤ now
  · simp [oldE, hh]
  · simp [oldE, hh]
end Go.Proofs.YtmbfenkmabdokaaGreatDoor

namespace Go.Proofs.YtmbfenkmabdokaaGreatDoor
open Go.RowKit Go.Mp

def ckV (E : List (Nat × Nat)) : List Value := E.map fun p => .string (bs (cookieB [107] (tkI p.1)))
def tmV (E : List (Nat × Nat)) : List Value := E.map fun p => .int .i64 (p.2 : Int)
theorem info_int : (Tryz.prog.info? 3).map (fun i => (i.zero, i.size, i.bytes)) = some (some (.int .i64 0), 1, 8) := by kernel_rfl
theorem info_int' : ∃ i, Tryz.prog.info? 3 = some i ∧ i.zero = some (.int .i64 0) ∧ i.size = 1 ∧ i.bytes = 8 := by
  have h := info_int
  cases hi : Tryz.prog.info? 3 with
  | none => rw [hi] at h; cases h
  | some i => rw [hi] at h; simp at h; exact ⟨i, rfl, h.1, h.2.1, h.2.2⟩
/-- what the first loop knows -/
structure EnR (n : Nat) (w8 wr : World) (s t p b base k : Nat) (E : List (Nat × Nat)) (vc vt : Value) : Prop where
  k20 : k ≤ 20
  kn : k ≤ n
  lo : ∀ q ∈ E, q.1 < k
  up : E.Pairwise fun p q => p.1 < q.1
  len : E.length ≤ k
  ss : Ss wr s t p b (LE E)
  kp : Kp (· = b) w8 wr
  ck : wr.ownsRow base 9 1 vc E.length (ckV E)
  tm : wr.ownsRow base 3 1 vt E.length (tmV E)
theorem EnR.nod {n : Nat} {w8 wr : World} {s t p b base k : Nat} {E : List (Nat × Nat)} {vc vt : Value} (h : EnR n w8 wr s t p b base k E vc vt) : ((LE E).map (·.1)).Nodup :=
  nodE h.up (fun q hq => by have := h.lo q hq; have := h.k20; omega)

theorem own_apart {w : World} {b1 b2 : Nat} {e e' : TypeId} {s s' : Nat} {v v' : Value} {n n' : Nat} {xs xs' : List Value} (h : w.ownsRow b1 e s v n xs) (h' : w.ownsRow b2 e' s' v' n' xs') (hne : e ≠ e') : ∀ k, v.ownBlock = some k → v'.ownBlock ≠ some k := by
  intro k hk hk'
  rcases h.2 with ⟨rfl, _⟩ | ⟨g, cap, cur, rfl, _, hg, _⟩
  · simp [Value.ownBlock] at hk
  · rcases h'.2 with ⟨rfl, _⟩ | ⟨g', cap', cur', rfl, _, hg', _⟩
    · simp [Value.ownBlock] at hk'
    · simp [Value.ownBlock] at hk hk'
      subst hk; subst hk'
      rw [hg] at hg'
      injection Option.some.inj hg' with _ h3 _
      exact hne h3
theorem ss_above {w w' : World} {s t p b B : Nat} {L : SL} (h : Ss w s t p b L) (k : Below B w w') (hs : s < B) (ht : t < B) (hb : b < B) : Ss w' s t p b L :=
  ⟨h.st.keep (F := fun z => B ≤ z) ⟨k.os, k.tape, k.output, k.size, fun z _ hF => k.block z (by omega)⟩ (by omega) (by omega) (by omega), h.ok⟩
theorem kp_above {w w1 w2 : World} {b B : Nat} (h : Kp (· = b) w w1) (k : Below B w1 w2) (hB : w.heap.size ≤ B) : Kp (· = b) w w2 :=
  ⟨k.os.trans h.os, k.tape.trans h.tape, k.output.trans h.output, Nat.le_trans h.size k.size, fun z hz hne => (k.block z (by omega)).trans (h.block z hz hne)⟩
theorem row_dr {k : Nat} (hk : k < 20) : ((bcs dr0).set 0 (.int .u8 (k : Int))).toArray.toList = bcs (drI k) := by
  have h : (UInt8.ofNat k).toNat = k := by simp; omega
  have h2 : bv (UInt8.ofNat k) = .int .u8 (k : Int) := by unfold bv; rw [h]
  show _ = bv (UInt8.ofNat k) :: _
  rw [h2]; rfl
theorem ckV_snoc (E : List (Nat × Nat)) (p : Nat × Nat) : ckV (E ++ [p]) = ckV E ++ [.string (bs (cookieB [107] (tkI p.1)))] := by unfold ckV; simp
theorem tmV_snoc (E : List (Nat × Nat)) (p : Nat × Nat) : tmV (E ++ [p]) = tmV E ++ [.int .i64 (p.2 : Int)] := by unfold tmV; simp

set_option maxRecDepth 100000 in
set_option maxHeartbeats 4000000 in
theorem Ends_ok (w : World) (A : Option Addr) (n c : Nat) (now later : Int) (hE : EnvN w) (hA : ∀ j, j < n → ∃ ad z, A = some ad ∧ w.cell? (ad.add j) = some (.int .i64 z)) (hn : n ≤ maxLen)
    (hnow : -9223372036854775808 ≤ now ∧ now ≤ 9223372036854775807) (hlater : -9223372036854775808 ≤ later ∧ later ≤ 9223372036854775807) :
    Calls Tryz.prog 5 #[.slice A n c, .int .i64 now, .int .i64 later] w fun e w' => e = .returned (.bool true) ∧ Below w.heap.size w w' := by
  have cW := Lib.hid (awake_ok w hE)
  have HE := Lib.hid hE; have HA := Lib.hid hA
  clear hE hA hn hnow hlater
  have hm := mk_draw
  go_enter Tryz.func5, Tryz.ntmps5
  go_wp2_with fail
  refine cW.out.mono ?_
  rintro e w0 ⟨rfl, hb0⟩
  have HB0 := Lib.hid hb0
  have cF := Lib.hid (Fresh_ok w0 319 (by omega) (by omega) (HE.out.below hb0))
  clear hb0
  dsimp only
  go_wp2_with fail
  refine cF.out.mono ?_
  rintro e w1 ⟨h, s, t, p, b, rfl, hst, hb1, hs, hb⟩
  have hss : Ss w1 s t p b (LE []) := ⟨hst, SOk.nil⟩
  have HSS := Lib.hid hss; have HB1 := Lib.hid (HB0.out.trans (hb1.mono HB0.out.size)); have HB := Lib.hid (Nat.le_trans HB0.out.size hb)
  have hlb : b < w1.heap.size := hst.lb
  clear hst hss hb1 hs hb
  dsimp only
  go_wp2_with fail
  go_loopw [10, 11, 12] (fun vc vt i wr => ∃ (k : Nat) (E : List (Nat × Nat)), i = .int .i64 k ∧ EnR n w1 wr s t p b w1.heap.size k E vc vt) (fun _ _ i _ => 20 - (intOf i).toNat)
  case atStart => exact ⟨0, [], rfl, by omega, by omega, by simp, List.Pairwise.nil, by simp, HSS.out, Kp.refl _ _, World.ownsRow_nil _ _ _ _, World.ownsRow_nil _ _ _ _⟩
  case round =>
    obtain ⟨k, E, rfl, henr⟩ := hrel
    obtain ⟨A4, c4, rfl⟩ := own_form3 henr.ck
    obtain ⟨A5, c5, rfl⟩ := own_form3 henr.tm
    have hbw := below_kp HB1.out henr.kp HB.out (Nat.le_refl _)
    have hk20 := henr.k20; have hEk := henr.len
    have HEN := Lib.hid henr; have HBW := Lib.hid hbw
    clear henr hbw
    by_cases h1 : k < n
    · by_cases h2 : k < 20
      · obtain ⟨ad, z, rfl, hz⟩ := HA.out k h1
        have hzr : wr.cell? (ad.add k) = some (.int .i64 z) := by
          rw [← hz]; exact World.cell?_of_block (HBW.out.block _ (World.block_lt_of_cell? w _ hz))
        have HZR := Lib.hid hzr
        have hzz : ∀ o : Obj, (wr.alloc o).cell? (ad.add k) = some (.int .i64 z) := fun o => (World.cell?_alloc_lt _ _ _ (World.block_lt_of_cell? wr _ hzr)).trans hzr
        have HZ0 := Lib.hid hz
        clear hz hzr
        go_wp2_with fail
        have hb2 : Below wr.heap.size wr (wr.alloc (.cells ((bcs dr0).set 0 (.int .u8 (k : Int))).toArray 5)) := (Below.refl _ _).alloc (Nat.le_refl _) _
        have bd2 := heap_alloc_new wr (.cells ((bcs dr0).set 0 (.int .u8 (k : Int))).toArray 5)
        have hS1 := HSS.out.st.ls; have hS2 := HSS.out.st.lt
        have hgn := getE_none HEN.out.lo h2
        have hws := HEN.out.kp.size
        generalize wr.alloc (.cells ((bcs dr0).set 0 (.int .u8 (k : Int))).toArray 5) = W2 at *
        have rd2 := rd_row bd2 (row_dr h2)
        have sW2 := HEN.out.ss.below hb2
        have okW := (Kp.of_below hb2 (· = b))
        by_cases hz01 : 0 ≤ z ∧ z ≤ 1125899906842624
        · obtain ⟨e0, rfl⟩ : ∃ e0 : Nat, z = e0 := ⟨z.toNat, by omega⟩
          have r0 := en0 E k e0 hgn (by omega) hz01
          have cI := Issue_L W2 s t p b (LE E) ⟨#[107]⟩ (some ⟨wr.heap.size, 0, none⟩) 16 (drI k) ⟨#[]⟩ ⟨#[97, 110, 110]⟩ 3 e0 0 0 0 0 sW2 (by unfold LE; rw [List.length_map]; omega) rd2 (by show 16 ≤ _; omega) (by decide) (by decide) (by decide)
          rw [en0E E k e0 _ r0, en0S E k e0 hgn r0, show (⟨#[107]⟩ : ByteArray).data.toList = [107] from rfl, show (drI k).length = 16 from rfl] at cI
          refine cI.mono ?_
          rintro e w3 ⟨rfl, hs3, hk3⟩
          have hkk := okW.trans hk3
          have hk13 := HEN.out.kp.trans hkk
          have ock := ownsRow_heap HEN.out.ck (fun z hz => hkk.block z (HEN.out.ck.lt z hz).2 (show z ≠ b by have := (HEN.out.ck.lt z hz).1; omega))
          have otm := ownsRow_heap HEN.out.tm (fun z hz => hkk.block z (HEN.out.tm.lt z hz).2 (show z ≠ b by have := (HEN.out.tm.lt z hz).1; omega))
          have zr3 : w3.cell? (ad.add k) = some (.int .i64 (e0 : Int)) := by
            rw [← HZR.out]; exact World.cell?_of_block (hkk.block _ (World.block_lt_of_cell? wr _ HZR.out) (show (ad.add k).block ≠ b by have := World.block_lt_of_cell? w _ HZ0.out; have := HB.out; omega))
          have ock' : (w3.alloc (.cells #[.string (bs (cookieB [107] (tkI k)))] 9)).ownsRow w1.heap.size 9 1 (.slice A4 E.length c4) E.length (ckV E) := ownsRow_below ock ((Below.refl _ _).alloc (Nat.le_refl _) _)
          have hsrc := src_row (T := 41) Tryz.underlying41 (heap_alloc_new w3 (.cells #[.string (bs (cookieB [107] (tkI k)))] 9)) (by kernel_rfl)
          have hsz3 := hk13.size
          have hbs : w1.heap.size ≤ (w3.alloc (.cells #[.string (bs (cookieB [107] (tkI k)))] 9)).heap.size := by
            simp only [World.size_alloc]; omega
          obtain ⟨ip, hip1, hip2, hip3, hip4⟩ := info_str'
          have OCK := Lib.hid ock'; have OTM := Lib.hid otm; have HS3 := Lib.hid hs3; have HK13 := Lib.hid hk13; have HSRC := Lib.hid hsrc; have HBS := Lib.hid hbs; have HZ3 := Lib.hid zr3
          clear ock ock' otm hs3 hkk hk13 hsrc hbs cI hk3 r0 rd2 sW2 okW bd2 hb2
          have zr3' := HZ3.out
          dsimp only
          go_wp2_with first | (at_builtin; refine wpList_append_src _ rfl (.tmp 60) (.tmp 62) 41 41 rfl w1.heap.size 9 ip (.string ⟨#[]⟩) 1 16 Tryz.underlying41 hip1 hip2 hip3 hip4 rfl _ _ E.length (ckV E) rfl rfl OCK.out 1 _ HSRC.out ?_ ?_ HBS.out ?_) | fail
          · unfold maxLen; omega
          · omega
          intro v4 w4 ow4 hg4
          have hb4 : Below w1.heap.size w3 w4 := ((Below.refl _ _).alloc hsz3 _).grown hg4 HBS.out (fun k hk => (OCK.out.lt k hk).1)
          have otm3 : (w3.alloc (.cells #[.string (bs (cookieB [107] (tkI k)))] 9)).ownsRow w1.heap.size 3 1 (.slice A5 E.length c5) E.length (tmV E) := ownsRow_below OTM.out ((Below.refl _ _).alloc (Nat.le_refl _) _)
          have otm4 := ownsRow_heap otm3 (fun z hz => hg4.block z (otm3.lt z hz).2 (fun e => own_apart otm3 OCK.out (by decide) z hz e.symm))
          have otm5 : (w4.alloc (.cells #[.int .i64 (e0 : Int)] 3)).ownsRow w1.heap.size 3 1 (.slice A5 E.length c5) E.length (tmV E) := ownsRow_below otm4 ((Below.refl _ _).alloc (Nat.le_refl _) _)
          have zr4 : w4.cell? (ad.add k) = some (.int .i64 (e0 : Int)) := by
            rw [← HZ3.out]; exact World.cell?_of_block (hb4.block _ (by have := World.block_lt_of_cell? w _ HZ0.out; have := HB1.out.size; omega))
          have hsrc5 := src_row (T := 29) Tryz.underlying29 (heap_alloc_new w4 (.cells #[.int .i64 (e0 : Int)] 3)) (by kernel_rfl)
          have hsz4 := Nat.le_trans hsz3 hb4.size
          have hbs5 : w1.heap.size ≤ (w4.alloc (.cells #[.int .i64 (e0 : Int)] 3)).heap.size := by
            simp only [World.size_alloc]; omega
          obtain ⟨A6, c6, rfl⟩ := own_form3 ow4
          obtain ⟨iq, hiq1, hiq2, hiq3, hiq4⟩ := info_int'
          have OW4 := Lib.hid ow4; have HB4 := Lib.hid hb4; have OTM5 := Lib.hid otm5; have HSRC5 := Lib.hid hsrc5; have HBS5 := Lib.hid hbs5
          clear ow4 hg4 hb4 otm3 otm4 otm5 hsrc5 hbs5 hip1 hip2 hip3 hip4 zr3'
          go_wp2_with first | (at_builtin; refine wpList_append_src _ rfl (.tmp 64) (.tmp 69) 29 29 rfl w1.heap.size 3 iq (.int .i64 0) 1 8 Tryz.underlying29 hiq1 hiq2 hiq3 hiq4 rfl _ _ E.length (tmV E) rfl rfl OTM5.out 1 _ HSRC5.out ?_ ?_ HBS5.out ?_) | fail
          · unfold maxLen; omega
          · omega
          intro v5 w5 ow5 hg5
          have hb5 : Below w1.heap.size w4 w5 := ((Below.refl _ _).alloc hsz4 _).grown hg5 HBS5.out (fun k hk => (OTM5.out.lt k hk).1)
          have ock4 : (w4.alloc (.cells #[.int .i64 (e0 : Int)] 3)).ownsRow w1.heap.size 9 1 (.slice A6 (E.length + 1) c6) (E.length + 1) (ckV E ++ [.string (bs (cookieB [107] (tkI k)))]) := ownsRow_below OW4.out ((Below.refl _ _).alloc (Nat.le_refl _) _)
          have ock5 := ownsRow_heap ock4 (fun z hz => hg5.block z (ock4.lt z hz).2 (fun e => own_apart ock4 OTM5.out (by decide) z hz e.symm))
          have hbb := HB4.out.trans hb5
          have hnew : EnR n w1 w5 s t p b w1.heap.size (k + 1) (E ++ [(k, e0)]) (.slice A6 (E.length + 1) c6) v5 := by
            refine ⟨by omega, by omega, ?_, ?_, by simp; omega, ss_above HS3.out hbb hS1 hS2 hlb, kp_above HK13.out hbb (Nat.le_refl _), ?_, ?_⟩
            · intro q hq
              rcases List.mem_append.1 hq with hq | hq
              · have := HEN.out.lo q hq; omega
              · simp at hq; subst hq; exact Nat.lt_succ_self k
            · refine List.pairwise_append.2 ⟨HEN.out.up, List.pairwise_singleton _ _, ?_⟩
              intro x hx y hy
              simp at hy; subst hy
              exact HEN.out.lo x hx
            · rw [ckV_snoc, List.length_append]; exact ock5
            · rw [tmV_snoc, List.length_append]; exact ow5
          have HNEW := Lib.hid hnew
          clear hnew ow5 hg5 hb5 ock4 ock5 hbb hiq1 hiq2 hiq3 hiq4 zr4 hzz
          go_wp2
          go_roundw
          case rel => first | exact ⟨k + 1, E ++ [(k, e0)], rfl, HNEW.out⟩ | ((repeat apply Exists.intro); exact ⟨⟨k + 1, E ++ [(k, e0)], rfl, HNEW.out⟩, rfl⟩)
          case measure => simp [intOf]; omega
        · have r1 := en1 E k z hz01
          have cI := Issue_L W2 s t p b (LE E) ⟨#[107]⟩ (some ⟨wr.heap.size, 0, none⟩) 16 (drI k) ⟨#[]⟩ ⟨#[97, 110, 110]⟩ 3 z 0 0 0 0 sW2 (by unfold LE; rw [List.length_map]; omega) rd2 (by show 16 ≤ _; omega) (by decide) (by decide) (by decide)
          rw [en1E E k z _ r1, en1S E k z r1, show (drI k).length = 16 from rfl] at cI
          refine cI.mono ?_
          rintro e w3 ⟨rfl, hs3, hk3⟩
          have hkk := okW.trans hk3
          have ock := ownsRow_heap HEN.out.ck (fun z hz => hkk.block z (HEN.out.ck.lt z hz).2 (show z ≠ b by have := (HEN.out.ck.lt z hz).1; omega))
          have otm := ownsRow_heap HEN.out.tm (fun z hz => hkk.block z (HEN.out.tm.lt z hz).2 (show z ≠ b by have := (HEN.out.tm.lt z hz).1; omega))
          have hnew : EnR n w1 w3 s t p b w1.heap.size (k + 1) E (.slice A4 E.length c4) (.slice A5 E.length c5) :=
            ⟨by omega, by omega, fun q hq => by have := HEN.out.lo q hq; omega, HEN.out.up, by omega, hs3, HEN.out.kp.trans hkk, ock, otm⟩
          have HNEW := Lib.hid hnew
          clear hnew ock otm hkk hs3 hk3 cI r1 rd2 sW2 okW bd2 hb2 hzz
          dsimp only
          go_wp2_with fail
          go_roundw
          case rel => first | exact ⟨k + 1, E, rfl, HNEW.out⟩ | ((repeat apply Exists.intro); exact ⟨⟨k + 1, E, rfl, HNEW.out⟩, rfl⟩)
          case measure => simp [intOf]; omega
      · skip
        obtain ⟨wo, rfl⟩ : ∃ wo : World, wo = wr := ⟨_, rfl⟩
        have hno := HEN.out.nod
        have HNO := Lib.hid hno
        clear hno
        go_wp2_with fail
        refine (Expire_L wo s t p b (LE E) now HEN.out.ss (by unfold LE; rw [List.length_map]; omega)).mono ?_
        rintro e w9 ⟨va, l, rfl, hp, hoa, hs9, hk9⟩
        obtain ⟨A8, c8, rfl⟩ := own_form3 hoa
        have hal := auth_len now hp
        have hrl := rest_len now E
        have hck9 := ownsRow_heap HEN.out.ck (fun z hz => hk9.block z (HEN.out.ck.lt z hz).2 (show z ≠ b by have := (HEN.out.ck.lt z hz).1; omega))
        have htm9 := ownsRow_heap HEN.out.tm (fun z hz => hk9.block z (HEN.out.tm.lt z hz).2 (show z ≠ b by have := (HEN.out.tm.lt z hz).1; omega))
        have hb9 := below_kp HBW.out hk9 HB.out (Nat.le_refl _)
        rw [hal]
        have HS9 := Lib.hid hs9; have HB9 := Lib.hid hb9; have HCK9 := Lib.hid hck9; have HTM9 := Lib.hid htm9; have HRL := Lib.hid hrl
        clear hs9 hk9 hck9 htm9 hb9 hoa hp hal hrl
        obtain ⟨gn, hgn⟩ : ∃ gn : Nat, (E.filter (oldE now)).length = gn := ⟨_, rfl⟩
        have HGN := Lib.hid hgn
        have hgle : gn ≤ E.length := by rw [← hgn]; exact List.length_filter_le _ _
        rw [hgn]
        clear hgn
        dsimp only
        go_wp2_with fail
        go_loopw [17, 18] (fun vg vi wQ => ∃ m : Nat, m ≤ E.length ∧ vg = .int .i64 (((E.take m).filter (oldE now)).length : Nat) ∧ vi = .int .i64 m ∧ Below w9.heap.size w9 wQ) (fun _ vi _ => 20 - (intOf vi).toNat)
        case atStart => exact ⟨0, Nat.zero_le _, rfl, rfl, Below.refl _ _⟩
        case round =>
          obtain ⟨m, hmE, rfl, rfl, hbq⟩ := hrel
          have HBQ := Lib.hid hbq
          clear hbq
          by_cases hm : m < E.length
          · obtain ⟨gc, hgc⟩ : ∃ gc, A4 = some ⟨gc, 0, none⟩ := by
              rcases HCK9.out.2 with ⟨_, h0⟩ | ⟨g, cap, cur, h0, _⟩
              · omega
              · injection h0 with hA; exact ⟨g, hA⟩
            obtain ⟨gt, hgt⟩ : ∃ gt, A5 = some ⟨gt, 0, none⟩ := by
              rcases HTM9.out.2 with ⟨_, h0⟩ | ⟨g, cap, cur, h0, _⟩
              · omega
              · injection h0 with hA; exact ⟨g, hA⟩
            subst hgc; subst hgt
            have cc : w9.cell? ⟨gc, m, none⟩ = some (.string (bs (cookieB [107] (tkI E[m].1)))) := by
              rw [HCK9.out.cellAt m (by omega)]; unfold ckV; rw [List.getElem?_map, List.getElem?_eq_getElem hm]; rfl
            have ct9 : ∀ m (hm : m < E.length), w9.cell? ⟨gt, m, none⟩ = some (.int .i64 (E[m].2 : Int)) := fun m hm => by
              rw [HTM9.out.cellAt m (by omega)]; unfold tmV; rw [List.getElem?_map, List.getElem?_eq_getElem hm]; rfl
            have CT9 := Lib.hid ct9
            clear ct9
            have ccq : wr.cell? ⟨gc, m, none⟩ = some (.string (bs (cookieB [107] (tkI E[m].1)))) := by
              rw [← cc]; exact World.cell?_of_block (HBQ.out.block _ (lt_of_cell cc))
            have hem : E[m] ∈ E := List.getElem_mem hm
            clear cc
            go_wp2_with fail
            by_cases hold : (E[m].2 : Int) ≤ now
            · skip
              have cs73 : (bs (cookieB [107] (tkI E[m].1))).size = 73 := cookie_size [107] _ (tokI _)
              refine (Find_L wr s t p b ((LE E).filter fun p => !oldS now p.2) ⟨#[107]⟩ (bs (cookieB [107] (tkI E[m].1))) (max now later) (HS9.out.below HBQ.out) (by decide) (by rw [cs73]; decide)).mono ?_
              rintro e wf ⟨rfl, hbf⟩
              rw [bs_list, bs_list, find_old HNO.out hem hold]
              have bf := HBQ.out.trans (hbf.mono HBQ.out.size)
              have hnf := heap_alloc_new wf (.cells zeroS 36)
              have hbg : Below wf.heap.size wf ((wf.alloc (.cells #[.string ⟨#[]⟩, .string ⟨#[]⟩, .int .i64 0, .int .i64 0, .int .i64 0, .int .i64 0, .int .i64 0, .int .i64 0] 36)).setRow wf.heap.size zeroS) := below_setRow ((Below.refl _ _).alloc (Nat.le_refl _) _) (Nat.le_refl _) _
              have hqg : ((wf.alloc (.cells #[.string ⟨#[]⟩, .string ⟨#[]⟩, .int .i64 0, .int .i64 0, .int .i64 0, .int .i64 0, .int .i64 0, .int .i64 0] 36)).setRow wf.heap.size zeroS).heap[wf.heap.size]? = some (.cells zeroS 36 (0, 0)) := setRow_heap _ _ _ _ _ _ hnf
              generalize hXg : ((wf.alloc (.cells #[.string ⟨#[]⟩, .string ⟨#[]⟩, .int .i64 0, .int .i64 0, .int .i64 0, .int .i64 0, .int .i64 0, .int .i64 0] 36)).setRow wf.heap.size zeroS) = wg at hbg hqg
              have hb' := bf.trans (hbg.mono bf.size)
              have hgl2 : ((E.take m).filter (oldE now)).length ≤ 20 := by have h1 := List.length_filter_le (oldE now) (E.take m); rw [List.length_take] at h1; omega
              have c3 : wg.cell? ⟨wf.heap.size, 3, none⟩ = some (.int .i64 0) := by rw [World.cell?]; simp only [hqg]; rfl
              have ct : wg.cell? ⟨gt, m, none⟩ = some (.int .i64 (E[m].2 : Int)) := by rw [← CT9.out m hm]; exact World.cell?_of_block (hb'.block _ (lt_of_cell (CT9.out m hm)))
              have hiC : (Tryz.prog.info? 36).map (·.size) = some (zeroS).size := by kernel_rfl
              have hallC : (zeroS).all (·.oneCell') = true := by kernel_rfl
              have HNF := Lib.hid hnf; have HXG := Lib.hid hXg; have HBG := Lib.hid hb'
              clear hbf bf hnf hbg hXg hb' hqg cs73
              dsimp only
              go_wp2_with first | (refine wpList_store_row rfl 36 _ _ rfl wf.heap.size zeroS rfl rfl 36 _ HNF.out hiC rfl hallC ?_; rw [HXG.out]) | (go_quiet (fail)) | fail
              go_roundw
              case rel => first | exact ⟨m + 1, by omega, by rw [take_old now E m hm, if_pos hold]; rfl, rfl, HBG.out⟩ | ((repeat apply Exists.intro); exact ⟨⟨m + 1, by omega, by rw [take_old now E m hm, if_pos hold]; rfl, rfl, HBG.out⟩, rfl⟩)
              case measure => simp [intOf]; omega
            · by_cases hlate : (E[m].2 : Int) ≤ max now later
              · skip
                have cs73 : (bs (cookieB [107] (tkI E[m].1))).size = 73 := cookie_size [107] _ (tokI _)
                refine (Find_L wr s t p b ((LE E).filter fun p => !oldS now p.2) ⟨#[107]⟩ (bs (cookieB [107] (tkI E[m].1))) (max now later) (HS9.out.below HBQ.out) (by decide) (by rw [cs73]; decide)).mono ?_
                rintro e wf ⟨rfl, hbf⟩
                rw [bs_list, bs_list, find_late HNO.out hem hold hlate]
                have bf := HBQ.out.trans (hbf.mono HBQ.out.size)
                have hnf := heap_alloc_new wf (.cells zeroS 36)
                have hbg : Below wf.heap.size wf ((wf.alloc (.cells #[.string ⟨#[]⟩, .string ⟨#[]⟩, .int .i64 0, .int .i64 0, .int .i64 0, .int .i64 0, .int .i64 0, .int .i64 0] 36)).setRow wf.heap.size zeroS) := below_setRow ((Below.refl _ _).alloc (Nat.le_refl _) _) (Nat.le_refl _) _
                have hqg : ((wf.alloc (.cells #[.string ⟨#[]⟩, .string ⟨#[]⟩, .int .i64 0, .int .i64 0, .int .i64 0, .int .i64 0, .int .i64 0, .int .i64 0] 36)).setRow wf.heap.size zeroS).heap[wf.heap.size]? = some (.cells zeroS 36 (0, 0)) := setRow_heap _ _ _ _ _ _ hnf
                generalize hXg : ((wf.alloc (.cells #[.string ⟨#[]⟩, .string ⟨#[]⟩, .int .i64 0, .int .i64 0, .int .i64 0, .int .i64 0, .int .i64 0, .int .i64 0] 36)).setRow wf.heap.size zeroS) = wg at hbg hqg
                have hb' := bf.trans (hbg.mono bf.size)
                have hgl2 : ((E.take m).filter (oldE now)).length ≤ 20 := by have h1 := List.length_filter_le (oldE now) (E.take m); rw [List.length_take] at h1; omega
                have c3 : wg.cell? ⟨wf.heap.size, 3, none⟩ = some (.int .i64 0) := by rw [World.cell?]; simp only [hqg]; rfl
                have ct : wg.cell? ⟨gt, m, none⟩ = some (.int .i64 (E[m].2 : Int)) := by rw [← CT9.out m hm]; exact World.cell?_of_block (hb'.block _ (lt_of_cell (CT9.out m hm)))
                have hiC : (Tryz.prog.info? 36).map (·.size) = some (zeroS).size := by kernel_rfl
                have hallC : (zeroS).all (·.oneCell') = true := by kernel_rfl
                have HNF := Lib.hid hnf; have HXG := Lib.hid hXg; have HBG := Lib.hid hb'
                clear hbf bf hnf hbg hXg hb' hqg cs73
                dsimp only
                go_wp2_with first | (refine wpList_store_row rfl 36 _ _ rfl wf.heap.size zeroS rfl rfl 36 _ HNF.out hiC rfl hallC ?_; rw [HXG.out]) | (go_quiet (fail)) | fail
                go_roundw
                case rel => first | exact ⟨m + 1, by omega, by rw [take_old now E m hm, if_neg hold]; rfl, rfl, below_draws HBG.out _⟩ | ((repeat apply Exists.intro); exact ⟨⟨m + 1, by omega, by rw [take_old now E m hm, if_neg hold]; rfl, rfl, below_draws HBG.out _⟩, rfl⟩)
                case measure => simp [intOf]; omega
              · skip
                have cs73 : (bs (cookieB [107] (tkI E[m].1))).size = 73 := cookie_size [107] _ (tokI _)
                refine (Find_L wr s t p b ((LE E).filter fun p => !oldS now p.2) ⟨#[107]⟩ (bs (cookieB [107] (tkI E[m].1))) (max now later) (HS9.out.below HBQ.out) (by decide) (by rw [cs73]; decide)).mono ?_
                rintro e wf ⟨rfl, hbf⟩
                rw [bs_list, bs_list, find_new HNO.out hem hold (by omega)]
                have bf := HBQ.out.trans (hbf.mono HBQ.out.size)
                have hnf := heap_alloc_new wf (.cells zeroS 36)
                have hbg : Below wf.heap.size wf ((wf.alloc (.cells #[.string ⟨#[]⟩, .string ⟨#[]⟩, .int .i64 0, .int .i64 0, .int .i64 0, .int .i64 0, .int .i64 0, .int .i64 0] 36)).setRow wf.heap.size (sessC (bs (tkI E[m].1)) (sesI E[m]).2)) := below_setRow ((Below.refl _ _).alloc (Nat.le_refl _) _) (Nat.le_refl _) _
                have hqg : ((wf.alloc (.cells #[.string ⟨#[]⟩, .string ⟨#[]⟩, .int .i64 0, .int .i64 0, .int .i64 0, .int .i64 0, .int .i64 0, .int .i64 0] 36)).setRow wf.heap.size (sessC (bs (tkI E[m].1)) (sesI E[m]).2)).heap[wf.heap.size]? = some (.cells (sessC (bs (tkI E[m].1)) (sesI E[m]).2) 36 (0, 0)) := setRow_heap _ _ _ _ _ _ hnf
                generalize hXg : ((wf.alloc (.cells #[.string ⟨#[]⟩, .string ⟨#[]⟩, .int .i64 0, .int .i64 0, .int .i64 0, .int .i64 0, .int .i64 0, .int .i64 0] 36)).setRow wf.heap.size (sessC (bs (tkI E[m].1)) (sesI E[m]).2)) = wg at hbg hqg
                have hb' := bf.trans (hbg.mono bf.size)
                have hgl2 : ((E.take m).filter (oldE now)).length ≤ 20 := by have h1 := List.length_filter_le (oldE now) (E.take m); rw [List.length_take] at h1; omega
                have c3 : wg.cell? ⟨wf.heap.size, 3, none⟩ = some (.int .i64 (E[m].2 : Int)) := by rw [World.cell?]; simp only [hqg]; show some (Value.int .i64 ((sesI E[m]).2.ends : Int)) = _; rw [ends_ses]
                have ct : wg.cell? ⟨gt, m, none⟩ = some (.int .i64 (E[m].2 : Int)) := by rw [← CT9.out m hm]; exact World.cell?_of_block (hb'.block _ (lt_of_cell (CT9.out m hm)))
                have hiC : (Tryz.prog.info? 36).map (·.size) = some ((sessC (bs (tkI E[m].1)) (sesI E[m]).2)).size := by kernel_rfl
                have hallC : ((sessC (bs (tkI E[m].1)) (sesI E[m]).2)).all (·.oneCell') = true := by kernel_rfl
                have HNF := Lib.hid hnf; have HXG := Lib.hid hXg; have HBG := Lib.hid hb'
                clear hbf bf hnf hbg hXg hb' hqg cs73
                dsimp only
                go_wp2_with first | (refine wpList_store_row rfl 36 _ _ rfl wf.heap.size (sessC (bs (tkI E[m].1)) (sesI E[m]).2) rfl rfl 36 _ HNF.out hiC rfl hallC ?_; rw [HXG.out]) | (go_quiet (fail)) | fail
                go_roundw
                case rel => first | exact ⟨m + 1, by omega, by rw [take_old now E m hm, if_neg hold]; rfl, rfl, below_draws HBG.out _⟩ | ((repeat apply Exists.intro); exact ⟨⟨m + 1, by omega, by rw [take_old now E m hm, if_neg hold]; rfl, rfl, below_draws HBG.out _⟩, rfl⟩)
                case measure => simp [intOf]; omega
          · obtain rfl : m = E.length := by omega
            rw [List.take_length, HGN.out]
            have HS10 := Lib.hid (HS9.out.below HBQ.out); have HB10 := Lib.hid (HB9.out.trans (HBQ.out.mono HB9.out.size))
            have hfl : ((LE E).filter fun p => !oldS now p.2).length = E.length - gn := by rw [HRL.out, HGN.out]
            have HFL := Lib.hid hfl
            clear hfl
            go_wp2_with fail
            refine (SAll_ok wr s t p b ((LE E).filter fun p => !oldS now p.2) HS10.out (by rw [HFL.out]; omega)).mono ?_
            rintro e wz ⟨vz, lz, rfl, hpz, howz, hbz⟩
            have hlz : lz.length = E.length - gn := by rw [hpz.length_eq]; exact HFL.out
            obtain ⟨Az, cz, rfl⟩ := own_form3 howz
            have HBZ := Lib.hid (HB10.out.trans (hbz.mono HB10.out.size))
            have hzi : ((lz.length : Nat) : Int) = (E.length : Int) - (gn : Int) := by omega
            clear hpz howz hbz hlz
            dsimp only
            go_wp2_with fail
            go_ret
            exact ⟨rfl, HBZ.out⟩
    · skip
      obtain ⟨wo, rfl⟩ : ∃ wo : World, wo = wr := ⟨_, rfl⟩
      have hno := HEN.out.nod
      have HNO := Lib.hid hno
      clear hno
      go_wp2_with fail
      refine (Expire_L wo s t p b (LE E) now HEN.out.ss (by unfold LE; rw [List.length_map]; omega)).mono ?_
      rintro e w9 ⟨va, l, rfl, hp, hoa, hs9, hk9⟩
      obtain ⟨A8, c8, rfl⟩ := own_form3 hoa
      have hal := auth_len now hp
      have hrl := rest_len now E
      have hck9 := ownsRow_heap HEN.out.ck (fun z hz => hk9.block z (HEN.out.ck.lt z hz).2 (show z ≠ b by have := (HEN.out.ck.lt z hz).1; omega))
      have htm9 := ownsRow_heap HEN.out.tm (fun z hz => hk9.block z (HEN.out.tm.lt z hz).2 (show z ≠ b by have := (HEN.out.tm.lt z hz).1; omega))
      have hb9 := below_kp HBW.out hk9 HB.out (Nat.le_refl _)
      rw [hal]
      have HS9 := Lib.hid hs9; have HB9 := Lib.hid hb9; have HCK9 := Lib.hid hck9; have HTM9 := Lib.hid htm9; have HRL := Lib.hid hrl
      clear hs9 hk9 hck9 htm9 hb9 hoa hp hal hrl
      obtain ⟨gn, hgn⟩ : ∃ gn : Nat, (E.filter (oldE now)).length = gn := ⟨_, rfl⟩
      have HGN := Lib.hid hgn
      have hgle : gn ≤ E.length := by rw [← hgn]; exact List.length_filter_le _ _
      rw [hgn]
      clear hgn
      dsimp only
      go_wp2_with fail
      go_loopw [17, 18] (fun vg vi wQ => ∃ m : Nat, m ≤ E.length ∧ vg = .int .i64 (((E.take m).filter (oldE now)).length : Nat) ∧ vi = .int .i64 m ∧ Below w9.heap.size w9 wQ) (fun _ vi _ => 20 - (intOf vi).toNat)
      case atStart => exact ⟨0, Nat.zero_le _, rfl, rfl, Below.refl _ _⟩
      case round =>
        obtain ⟨m, hmE, rfl, rfl, hbq⟩ := hrel
        have HBQ := Lib.hid hbq
        clear hbq
        by_cases hm : m < E.length
        · obtain ⟨gc, hgc⟩ : ∃ gc, A4 = some ⟨gc, 0, none⟩ := by
            rcases HCK9.out.2 with ⟨_, h0⟩ | ⟨g, cap, cur, h0, _⟩
            · omega
            · injection h0 with hA; exact ⟨g, hA⟩
          obtain ⟨gt, hgt⟩ : ∃ gt, A5 = some ⟨gt, 0, none⟩ := by
            rcases HTM9.out.2 with ⟨_, h0⟩ | ⟨g, cap, cur, h0, _⟩
            · omega
            · injection h0 with hA; exact ⟨g, hA⟩
          subst hgc; subst hgt
          have cc : w9.cell? ⟨gc, m, none⟩ = some (.string (bs (cookieB [107] (tkI E[m].1)))) := by
            rw [HCK9.out.cellAt m (by omega)]; unfold ckV; rw [List.getElem?_map, List.getElem?_eq_getElem hm]; rfl
          have ct9 : ∀ m (hm : m < E.length), w9.cell? ⟨gt, m, none⟩ = some (.int .i64 (E[m].2 : Int)) := fun m hm => by
            rw [HTM9.out.cellAt m (by omega)]; unfold tmV; rw [List.getElem?_map, List.getElem?_eq_getElem hm]; rfl
          have CT9 := Lib.hid ct9
          clear ct9
          have ccq : wr.cell? ⟨gc, m, none⟩ = some (.string (bs (cookieB [107] (tkI E[m].1)))) := by
            rw [← cc]; exact World.cell?_of_block (HBQ.out.block _ (lt_of_cell cc))
          have hem : E[m] ∈ E := List.getElem_mem hm
          clear cc
          go_wp2_with fail
          by_cases hold : (E[m].2 : Int) ≤ now
          · skip
            have cs73 : (bs (cookieB [107] (tkI E[m].1))).size = 73 := cookie_size [107] _ (tokI _)
            refine (Find_L wr s t p b ((LE E).filter fun p => !oldS now p.2) ⟨#[107]⟩ (bs (cookieB [107] (tkI E[m].1))) (max now later) (HS9.out.below HBQ.out) (by decide) (by rw [cs73]; decide)).mono ?_
            rintro e wf ⟨rfl, hbf⟩
            rw [bs_list, bs_list, find_old HNO.out hem hold]
            have bf := HBQ.out.trans (hbf.mono HBQ.out.size)
            have hnf := heap_alloc_new wf (.cells zeroS 36)
            have hbg : Below wf.heap.size wf ((wf.alloc (.cells #[.string ⟨#[]⟩, .string ⟨#[]⟩, .int .i64 0, .int .i64 0, .int .i64 0, .int .i64 0, .int .i64 0, .int .i64 0] 36)).setRow wf.heap.size zeroS) := below_setRow ((Below.refl _ _).alloc (Nat.le_refl _) _) (Nat.le_refl _) _
            have hqg : ((wf.alloc (.cells #[.string ⟨#[]⟩, .string ⟨#[]⟩, .int .i64 0, .int .i64 0, .int .i64 0, .int .i64 0, .int .i64 0, .int .i64 0] 36)).setRow wf.heap.size zeroS).heap[wf.heap.size]? = some (.cells zeroS 36 (0, 0)) := setRow_heap _ _ _ _ _ _ hnf
            generalize hXg : ((wf.alloc (.cells #[.string ⟨#[]⟩, .string ⟨#[]⟩, .int .i64 0, .int .i64 0, .int .i64 0, .int .i64 0, .int .i64 0, .int .i64 0] 36)).setRow wf.heap.size zeroS) = wg at hbg hqg
            have hb' := bf.trans (hbg.mono bf.size)
            have hgl2 : ((E.take m).filter (oldE now)).length ≤ 20 := by have h1 := List.length_filter_le (oldE now) (E.take m); rw [List.length_take] at h1; omega
            have c3 : wg.cell? ⟨wf.heap.size, 3, none⟩ = some (.int .i64 0) := by rw [World.cell?]; simp only [hqg]; rfl
            have ct : wg.cell? ⟨gt, m, none⟩ = some (.int .i64 (E[m].2 : Int)) := by rw [← CT9.out m hm]; exact World.cell?_of_block (hb'.block _ (lt_of_cell (CT9.out m hm)))
            have hiC : (Tryz.prog.info? 36).map (·.size) = some (zeroS).size := by kernel_rfl
            have hallC : (zeroS).all (·.oneCell') = true := by kernel_rfl
            have HNF := Lib.hid hnf; have HXG := Lib.hid hXg; have HBG := Lib.hid hb'
            clear hbf bf hnf hbg hXg hb' hqg cs73
            dsimp only
            go_wp2_with first | (refine wpList_store_row rfl 36 _ _ rfl wf.heap.size zeroS rfl rfl 36 _ HNF.out hiC rfl hallC ?_; rw [HXG.out]) | (go_quiet (fail)) | fail
            go_roundw
            case rel => first | exact ⟨m + 1, by omega, by rw [take_old now E m hm, if_pos hold]; rfl, rfl, HBG.out⟩ | ((repeat apply Exists.intro); exact ⟨⟨m + 1, by omega, by rw [take_old now E m hm, if_pos hold]; rfl, rfl, HBG.out⟩, rfl⟩)
            case measure => simp [intOf]; omega
          · by_cases hlate : (E[m].2 : Int) ≤ max now later
            · skip
              have cs73 : (bs (cookieB [107] (tkI E[m].1))).size = 73 := cookie_size [107] _ (tokI _)
              refine (Find_L wr s t p b ((LE E).filter fun p => !oldS now p.2) ⟨#[107]⟩ (bs (cookieB [107] (tkI E[m].1))) (max now later) (HS9.out.below HBQ.out) (by decide) (by rw [cs73]; decide)).mono ?_
              rintro e wf ⟨rfl, hbf⟩
              rw [bs_list, bs_list, find_late HNO.out hem hold hlate]
              have bf := HBQ.out.trans (hbf.mono HBQ.out.size)
              have hnf := heap_alloc_new wf (.cells zeroS 36)
              have hbg : Below wf.heap.size wf ((wf.alloc (.cells #[.string ⟨#[]⟩, .string ⟨#[]⟩, .int .i64 0, .int .i64 0, .int .i64 0, .int .i64 0, .int .i64 0, .int .i64 0] 36)).setRow wf.heap.size zeroS) := below_setRow ((Below.refl _ _).alloc (Nat.le_refl _) _) (Nat.le_refl _) _
              have hqg : ((wf.alloc (.cells #[.string ⟨#[]⟩, .string ⟨#[]⟩, .int .i64 0, .int .i64 0, .int .i64 0, .int .i64 0, .int .i64 0, .int .i64 0] 36)).setRow wf.heap.size zeroS).heap[wf.heap.size]? = some (.cells zeroS 36 (0, 0)) := setRow_heap _ _ _ _ _ _ hnf
              generalize hXg : ((wf.alloc (.cells #[.string ⟨#[]⟩, .string ⟨#[]⟩, .int .i64 0, .int .i64 0, .int .i64 0, .int .i64 0, .int .i64 0, .int .i64 0] 36)).setRow wf.heap.size zeroS) = wg at hbg hqg
              have hb' := bf.trans (hbg.mono bf.size)
              have hgl2 : ((E.take m).filter (oldE now)).length ≤ 20 := by have h1 := List.length_filter_le (oldE now) (E.take m); rw [List.length_take] at h1; omega
              have c3 : wg.cell? ⟨wf.heap.size, 3, none⟩ = some (.int .i64 0) := by rw [World.cell?]; simp only [hqg]; rfl
              have ct : wg.cell? ⟨gt, m, none⟩ = some (.int .i64 (E[m].2 : Int)) := by rw [← CT9.out m hm]; exact World.cell?_of_block (hb'.block _ (lt_of_cell (CT9.out m hm)))
              have hiC : (Tryz.prog.info? 36).map (·.size) = some (zeroS).size := by kernel_rfl
              have hallC : (zeroS).all (·.oneCell') = true := by kernel_rfl
              have HNF := Lib.hid hnf; have HXG := Lib.hid hXg; have HBG := Lib.hid hb'
              clear hbf bf hnf hbg hXg hb' hqg cs73
              dsimp only
              go_wp2_with first | (refine wpList_store_row rfl 36 _ _ rfl wf.heap.size zeroS rfl rfl 36 _ HNF.out hiC rfl hallC ?_; rw [HXG.out]) | (go_quiet (fail)) | fail
              go_roundw
              case rel => first | exact ⟨m + 1, by omega, by rw [take_old now E m hm, if_neg hold]; rfl, rfl, below_draws HBG.out _⟩ | ((repeat apply Exists.intro); exact ⟨⟨m + 1, by omega, by rw [take_old now E m hm, if_neg hold]; rfl, rfl, below_draws HBG.out _⟩, rfl⟩)
              case measure => simp [intOf]; omega
            · skip
              have cs73 : (bs (cookieB [107] (tkI E[m].1))).size = 73 := cookie_size [107] _ (tokI _)
              refine (Find_L wr s t p b ((LE E).filter fun p => !oldS now p.2) ⟨#[107]⟩ (bs (cookieB [107] (tkI E[m].1))) (max now later) (HS9.out.below HBQ.out) (by decide) (by rw [cs73]; decide)).mono ?_
              rintro e wf ⟨rfl, hbf⟩
              rw [bs_list, bs_list, find_new HNO.out hem hold (by omega)]
              have bf := HBQ.out.trans (hbf.mono HBQ.out.size)
              have hnf := heap_alloc_new wf (.cells zeroS 36)
              have hbg : Below wf.heap.size wf ((wf.alloc (.cells #[.string ⟨#[]⟩, .string ⟨#[]⟩, .int .i64 0, .int .i64 0, .int .i64 0, .int .i64 0, .int .i64 0, .int .i64 0] 36)).setRow wf.heap.size (sessC (bs (tkI E[m].1)) (sesI E[m]).2)) := below_setRow ((Below.refl _ _).alloc (Nat.le_refl _) _) (Nat.le_refl _) _
              have hqg : ((wf.alloc (.cells #[.string ⟨#[]⟩, .string ⟨#[]⟩, .int .i64 0, .int .i64 0, .int .i64 0, .int .i64 0, .int .i64 0, .int .i64 0] 36)).setRow wf.heap.size (sessC (bs (tkI E[m].1)) (sesI E[m]).2)).heap[wf.heap.size]? = some (.cells (sessC (bs (tkI E[m].1)) (sesI E[m]).2) 36 (0, 0)) := setRow_heap _ _ _ _ _ _ hnf
              generalize hXg : ((wf.alloc (.cells #[.string ⟨#[]⟩, .string ⟨#[]⟩, .int .i64 0, .int .i64 0, .int .i64 0, .int .i64 0, .int .i64 0, .int .i64 0] 36)).setRow wf.heap.size (sessC (bs (tkI E[m].1)) (sesI E[m]).2)) = wg at hbg hqg
              have hb' := bf.trans (hbg.mono bf.size)
              have hgl2 : ((E.take m).filter (oldE now)).length ≤ 20 := by have h1 := List.length_filter_le (oldE now) (E.take m); rw [List.length_take] at h1; omega
              have c3 : wg.cell? ⟨wf.heap.size, 3, none⟩ = some (.int .i64 (E[m].2 : Int)) := by rw [World.cell?]; simp only [hqg]; show some (Value.int .i64 ((sesI E[m]).2.ends : Int)) = _; rw [ends_ses]
              have ct : wg.cell? ⟨gt, m, none⟩ = some (.int .i64 (E[m].2 : Int)) := by rw [← CT9.out m hm]; exact World.cell?_of_block (hb'.block _ (lt_of_cell (CT9.out m hm)))
              have hiC : (Tryz.prog.info? 36).map (·.size) = some ((sessC (bs (tkI E[m].1)) (sesI E[m]).2)).size := by kernel_rfl
              have hallC : ((sessC (bs (tkI E[m].1)) (sesI E[m]).2)).all (·.oneCell') = true := by kernel_rfl
              have HNF := Lib.hid hnf; have HXG := Lib.hid hXg; have HBG := Lib.hid hb'
              clear hbf bf hnf hbg hXg hb' hqg cs73
              dsimp only
              go_wp2_with first | (refine wpList_store_row rfl 36 _ _ rfl wf.heap.size (sessC (bs (tkI E[m].1)) (sesI E[m]).2) rfl rfl 36 _ HNF.out hiC rfl hallC ?_; rw [HXG.out]) | (go_quiet (fail)) | fail
              go_roundw
              case rel => first | exact ⟨m + 1, by omega, by rw [take_old now E m hm, if_neg hold]; rfl, rfl, below_draws HBG.out _⟩ | ((repeat apply Exists.intro); exact ⟨⟨m + 1, by omega, by rw [take_old now E m hm, if_neg hold]; rfl, rfl, below_draws HBG.out _⟩, rfl⟩)
              case measure => simp [intOf]; omega
        · obtain rfl : m = E.length := by omega
          rw [List.take_length, HGN.out]
          have HS10 := Lib.hid (HS9.out.below HBQ.out); have HB10 := Lib.hid (HB9.out.trans (HBQ.out.mono HB9.out.size))
          have hfl : ((LE E).filter fun p => !oldS now p.2).length = E.length - gn := by rw [HRL.out, HGN.out]
          have HFL := Lib.hid hfl
          clear hfl
          go_wp2_with fail
          refine (SAll_ok wr s t p b ((LE E).filter fun p => !oldS now p.2) HS10.out (by rw [HFL.out]; omega)).mono ?_
          rintro e wz ⟨vz, lz, rfl, hpz, howz, hbz⟩
          have hlz : lz.length = E.length - gn := by rw [hpz.length_eq]; exact HFL.out
          obtain ⟨Az, cz, rfl⟩ := own_form3 howz
          have HBZ := Lib.hid (HB10.out.trans (hbz.mono HB10.out.size))
          have hzi : ((lz.length : Nat) : Int) = (E.length : Int) - (gn : Int) := by omega
          clear hpz howz hbz hlz
          dsimp only
          go_wp2_with fail
          go_ret
          exact ⟨rfl, HBZ.out⟩
end Go.Proofs.YtmbfenkmabdokaaGreatDoor
