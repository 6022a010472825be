/- Parts of the proof: Sess1, Tuple, Sess3, Sess4, Sess5. -/
import Derived.Test.YtmbfenkmabdokaaGreatDoorR13
import Derived.Test.YtmbfenkmabdokaaGreatDoorR09
import Derived.Test.YtmbfenkmabdokaaGreatDoorR11
set_option linter.all false
namespace Go.Proofs.YtmbfenkmabdokaaGreatDoor
open Go.RowKit Go.Mp

abbrev bs (l : Bytes) : ByteArray := ⟨l.toArray⟩
theorem bs_inj {a b : Bytes} : bs a = bs b ↔ a = b := by
  constructor
  · intro h
    have := congrArg (fun x : ByteArray => x.data.toList) h
    simpa using this
  · rintro rfl; rfl
theorem bs_of (s : ByteArray) : bs s.data.toList = s := rfl
theorem bs_size (l : Bytes) : (bs l).size = l.length := by show l.toArray.size = _; simp
theorem size_len (s : ByteArray) : s.data.toList.length = s.size := by show _ = s.data.size; simp
theorem bs_app (a b : Bytes) : bs a ++ bs b = bs (a ++ b) := by
  apply ByteArray.ext
  simp [ByteArray.data_append]

set_option maxRecDepth 100000 in
set_option maxHeartbeats 1000000 in
theorem Tag_ok (w : World) (A B : Option Addr) (c d : Nat) (k l : Bytes) (hk : RdB w A k) (hl : RdB w B l) (hkn : k.length ≤ 140737488355100) (hln : l.length ≤ 140737488355000) (hl1 : 1 ≤ l.length) (hc : k.length ≤ c) (hcm : c ≤ maxLen) :
    Calls Tryz.prog 29 #[.slice A k.length c, .slice B l.length d] w fun e w' => ∃ g, e = .returned (.slice (some ⟨g, 0, none⟩) 20 20) ∧ RdB w' (some ⟨g, 0, none⟩) (tagB k l) ∧ Below w.heap.size w w' := by
  have cT := tag_ok w A B c d k l hk hl hkn hln hl1 hc hcm
  have hsA := tagB_length k l
  have hbA1 : (bcs (tagB k l)).toArray.size = 20 := by rw [List.size_toArray, bcs_length, hsA]
  have hiA : (Tryz.prog.info? 120).map (·.size) = some (bcs (tagB k l)).toArray.size := by rw [hbA1]; kernel_rfl
  have hallA : (bcs (tagB k l)).toArray.all (·.oneCell') = true := by rw [List.all_toArray, List.all_eq_true]; exact bcs_one _
  have hzA : z20.size = (bcs (tagB k l)).toArray.size := by rw [hbA1]; rfl
  have CT := Lib.hid cT
  clear cT hsA hbA1
  go_enter Tryz.func29, Tryz.ntmps29
  go_wp2_with fail
  refine CT.out.mono ?_
  rintro e wA ⟨rfl, hbA⟩
  have hnA : (wA.alloc (.cells z20 120)).heap[wA.heap.size]? = some (.cells z20 120 (0, 0)) := heap_alloc_new wA _
  have hFA := setRow_heap (wA.alloc (.cells z20 120)) wA.heap.size _ (bcs (tagB k l)).toArray _ _ hnA
  have hbB : Below w.heap.size w ((wA.alloc (.cells z20 120)).setRow wA.heap.size (bcs (tagB k l)).toArray) := below_setRow (hbA.alloc hbA.size _) hbA.size _
  have HFA := Lib.hid hFA; have HBB := Lib.hid hbB
  clear hFA hbB hbA
  dsimp only
  go_wp2_with (refine wpList_store_row rfl 120 _ _ rfl wA.heap.size (bcs (tagB k l)).toArray rfl rfl 120 z20 hnA hiA hzA hallA ?_)
  go_ret
  exact ⟨wA.heap.size, rfl, arr_rd HFA.out, HBB.out⟩

theorem toList_bs (l : Bytes) : (bs l).toList = l := by
  have := Go.Lib.toList_data (bs l)
  simpa using this
/-! ### tokens -/
def hexSet : Bytes := [48, 49, 50, 51, 52, 53, 54, 55, 56, 57, 97, 98, 99, 100, 101, 102]
set_option maxRecDepth 100000 in
theorem hexSet_is (c : UInt8) : hexSet.contains c = isHex c := by
  have key : ∀ n : Fin 256, hexSet.contains (UInt8.ofNat n.1) = isHex (UInt8.ofNat n.1) := by decide
  have := key ⟨c.toNat, c.toNat_lt⟩
  simpa using this
theorem dropWhile_nil (p : UInt8 → Bool) : ∀ l : Bytes, l.dropWhile p = [] ↔ ∀ x ∈ l, p x = true
  | [] => by simp
  | x :: l => by
    rw [List.dropWhile_cons]
    by_cases h : p x = true
    · rw [if_pos h, dropWhile_nil p l]; simp [h]
    · rw [if_neg h]; simp; intro h'; exact absurd h' h
theorem trimS_nil (l cs : Bytes) : Lib.trimS l cs = [] ↔ l.all (cs.contains ·) = true := by
  unfold Lib.trimS Lib.trimLeftS Lib.trimRightS
  rw [dropWhile_nil, List.all_eq_true]
  constructor
  · intro h
    have h2 : l.reverse.dropWhile (cs.contains ·) = [] := by
      cases hd : l.reverse.dropWhile (cs.contains ·) with
      | nil => rfl
      | cons x r =>
        have hx := h x (by rw [hd]; simp)
        have := List.head?_dropWhile_not (cs.contains ·) l.reverse
        rw [hd] at this
        simp at this hx
        exact absurd hx this
    rw [dropWhile_nil] at h2
    intro x hx
    exact h2 x (by simpa using hx)
  · intro h x hx
    apply h
    have := (List.dropWhile_sublist (p := (cs.contains ·)) (l := l.reverse)).subset (by simpa using hx)
    simpa using this

set_option maxRecDepth 100000 in
theorem isToken_ok (w : World) (s : ByteArray) (hs : s.size ≤ 9223372036854775807) :
    Calls Tryz.prog 27 #[.string s] w fun e w' => e = .returned (.bool (isTok s.data.toList)) ∧ Below w.heap.size w w' := by
  have hsz := size_len s
  by_cases h32 : s.size = 32
  · have cT := Any.strings_Trim_laid Tryz.lays160 (by kernel_rfl) s (bs hexSet) w hs (by decide) (ascii_of_all (by decide))
    have hq : (bs (Lib.trimS s.data.toList hexSet)).toList.isEmpty = isTok s.data.toList := by
      have e1 : isTok s.data.toList = s.data.toList.all (hexSet.contains ·) := by
        unfold isTok; rw [hsz, h32]; simp only [hexSet_is]; rfl
      rw [e1, Bool.eq_iff_iff, ← trimS_nil, toList_bs, List.isEmpty_iff]
    have hb2 : ((s.size : Int) == 32) = true := by simp; omega
    have CT : Hid (Calls Tryz.prog 76 #[.string s, .string (bs hexSet)] w fun e w' => e = .returned (.string (bs (Lib.trimS s.data.toList hexSet))) ∧ Below w.heap.size w w') := Lib.hid cT
    generalize bs (Lib.trimS s.data.toList hexSet) = tt at *
    generalize isTok s.data.toList = it at *
    clear cT hsz h32
    go_enter Tryz.func27, Tryz.ntmps27
    go_wp2_with fail
    refine CT.out.mono ?_
    rintro e w2 ⟨rfl, hb⟩
    dsimp only
    go_wp2
    go_ret
    exact ⟨by rw [← hq]; rfl, hb⟩
  · have hb : isTok s.data.toList = false := by unfold isTok; rw [hsz]; simp [h32]
    have hb2 : ((s.size : Int) == 32) = false := by simp; omega
    have HB := Lib.hid hb
    clear hb hsz h32
    go_enter Tryz.func27, Tryz.ntmps27
    go_wp2
    go_ret
    exact ⟨by rw [HB.out]; rfl, Below.refl _ _⟩
theorem conv_bytes (W : World) (s : ByteArray) (_hs : s.size ≤ maxLen) : ∃ c W', (convert 9 26 (.string s)).run Tryz.prog W = .ok (.slice (some ⟨W.heap.size, 0, none⟩) s.size c) W' ∧ s.size ≤ c ∧ c ≤ maxLen ∧
    RdB W' (some ⟨W.heap.size, 0, none⟩) s.data.toList ∧ Below W.heap.size W W' := by
  refine ⟨_, _, run_bytes_of_string W 9 26 5 s Tryz.underlying9 Tryz.underlying26 Tryz.underlying5, grownCap_ge _ _ _ _, grownCap_le_maxLen _ _ _ _ _hs, ?_, (Below.refl _ _).drew.alloc (Nat.le_refl _) _⟩
  refine .inr ⟨W.heap.size, 0, rfl, fun i hi => ?_⟩
  have := heap_alloc_new W.drew (.cells (bytesRow s (grownCap W s.size 0 5)) 5 ((bytesRow s (grownCap W s.size 0 5)).size, (bytesRow s (grownCap W s.size 0 5)).size + 1))
  have hh : (World.alloc W.drew (.cells (bytesRow s (grownCap W s.size 0 5)) 5 ((bytesRow s (grownCap W s.size 0 5)).size, (bytesRow s (grownCap W s.size 0 5)).size + 1))).heap[W.heap.size]? = _ := this
  rw [World.cell?]
  simp only [hh]
  have hi2 : i < s.data.size := by simpa using hi
  rw [Nat.zero_add, bytesRow, Array.getElem?_append_left (by simpa using hi2), Array.getElem?_map, Array.getElem?_eq_getElem hi2]
  simp [Array.getElem?_eq_getElem hi2]

/-- a token's cookie, or none -/
def cookieO (k t : Bytes) : Option Bytes := if isTok t then some (cookieB k t) else none
def cookieE (k t : Bytes) : Ending := .returned (.tuple (match cookieO k t with | some c => #[.string (bs c), .int .i64 0] | none => #[.string ⟨#[]⟩, .int .i64 195]))

set_option maxRecDepth 100000 in
set_option maxHeartbeats 1000000 in
theorem Cookie_ok (w : World) (k t : ByteArray) (hk : k.size ≤ 140737488355100) (ht : t.size ≤ 9223372036854775807) :
    Calls Tryz.prog 10 #[.string k, .string t] w fun e w' => e = cookieE k.data.toList t.data.toList ∧ Below w.heap.size w w' := by
  have cI := isToken_ok w t ht
  by_cases hi : isTok t.data.toList = true
  · rw [hi] at cI
    have htl : t.data.toList.length = 32 := by unfold isTok at hi; simp at hi; simpa using hi.1
    have hE : cookieE k.data.toList t.data.toList = .returned (.tuple #[.string (bs (cookieB k.data.toList t.data.toList)), .int .i64 0]) := by unfold cookieE cookieO; rw [if_pos hi]
    have CI := Lib.hid cI; have HE := Lib.hid hE; have HTL := Lib.hid htl
    clear cI hi hE htl
    go_enter Tryz.func10, Tryz.ntmps10
    go_wp2_with fail
    refine CI.out.mono ?_
    rintro e w2 ⟨rfl, hb⟩
    have HB := Lib.hid hb
    clear hb
    dsimp only
    obtain ⟨c1, W1, e1, hc1, hm1, hr1, hb1⟩ := conv_bytes w2 k (by unfold maxLen; omega)
    obtain ⟨c2, W2, e2, hc2, hm2, hr2, hb2⟩ := conv_bytes W1 t (by unfold maxLen; omega)
    have hts : t.size ≤ 32 := by have := HTL.out; rw [size_len] at this; omega
    have hts2 : 32 ≤ t.size := by have := HTL.out; rw [size_len] at this; omega
    have cT := Tag_ok W2 (some ⟨w2.heap.size, 0, none⟩) (some ⟨W1.heap.size, 0, none⟩) c1 c2 k.data.toList t.data.toList (hr1.below hb2) hr2 (by rw [size_len]; omega) (by rw [size_len]; omega) (by rw [size_len]; omega) (by rw [size_len]; omega) hm1
    rw [size_len, size_len] at cT
    have CT := Lib.hid cT
    have HBB := Lib.hid (hb1.trans (hb2.mono hb1.size))
    clear cT hr1 hr2 hb1 hb2
    go_wp2_with fail
    refine CT.out.mono ?_
    rintro e w3 ⟨g, rfl, hr3, hb3⟩
    have cH := Hex_ok w3 (some ⟨g, 0, none⟩) 20 (tagB k.data.toList t.data.toList) hr3 (by rw [tagB_length]; omega)
    rw [tagB_length] at cH
    have CH := Lib.hid cH; have HB3 := Lib.hid hb3
    clear cH hr3 hb3 e1 e2
    dsimp only
    go_wp2_with fail
    refine CH.out.mono ?_
    rintro e w4 ⟨rfl, hb4⟩
    have hhl : (hexB (tagB k.data.toList t.data.toList)).length ≤ 40 := by rw [hexB_length, tagB_length]; omega
    have hfin : t ++ ⟨#[46]⟩ ++ bs (hexB (tagB k.data.toList t.data.toList)) = bs (cookieB k.data.toList t.data.toList) := by
      rw [cookieB, ← bs_app, ← bs_app]
    have HFIN := Lib.hid hfin; have HB4 := Lib.hid hb4
    clear hfin hb4
    dsimp only
    have h33 : (t ++ ⟨#[46]⟩ : ByteArray).size ≤ 33 := by
      rw [ByteArray.size_append]
      have : (⟨#[46]⟩ : ByteArray).size = 1 := rfl
      omega
    go_wp2
    go_ret2
    exact ⟨by rw [HE.out, ← HFIN.out]; rfl, HB.out.trans ((HBB.out.trans ((HB3.out.trans (HB4.out.mono HB3.out.size)).mono HBB.out.size)).mono HB.out.size)⟩
  · have hi' : isTok t.data.toList = false := by simpa using hi
    rw [hi'] at cI
    have hE : cookieE k.data.toList t.data.toList = .returned (.tuple #[.string ⟨#[]⟩, .int .i64 195]) := by unfold cookieE cookieO; rw [if_neg hi]
    have CI := Lib.hid cI; have HE := Lib.hid hE
    clear cI hi hi' hE
    go_enter Tryz.func10, Tryz.ntmps10
    go_wp2_with first | (go_at_call 27; refine CI.out.mono ?_; rintro e w2 ⟨rfl, hb⟩) | fail
    go_ret2
    exact ⟨by rw [HE.out]; rfl, hb⟩
end Go.Proofs.YtmbfenkmabdokaaGreatDoor

namespace Go.Proofs.YtmbfenkmabdokaaGreatDoor
open Go.RowKit Go.Mp

/-- texts behind one another -/
def catB (ss : List ByteArray) : Bytes := ss.flatMap fun s => s.data.toList
theorem catB_take (ss : List ByteArray) (k : Nat) (h : k < ss.length) : catB (ss.take (k + 1)) = catB (ss.take k) ++ ss[k].data.toList := by
  unfold catB; rw [List.take_succ_eq_append_getElem h, List.flatMap_append]; simp

set_option maxRecDepth 100000 in
set_option maxHeartbeats 400000 in
theorem join_ok (w : World) (b pb : Nat) (l : Bytes) (ss : List ByteArray) (cs : Array Value) (hcs : cs = (ss.map Value.string).toArray) (hb : Bd w b l) (hrow : w.heap[pb]? = some (.cells cs 9 (0, 0))) (hne : pb ≠ b)
    (hlen : l.length + (catB ss).length ≤ 1000000) (hn : ss.length ≤ 1000) :
    Calls Tryz.prog 98 #[.pointer (some ⟨b, 0, none⟩), .slice (some ⟨pb, 0, none⟩) ss.length ss.length] w fun e w' => e = .returned (.tuple #[]) ∧ Bd w' b (l ++ catB ss) ∧ KB b w w' := by
  subst hcs
  have HR := Lib.hid hrow; have HB := Lib.hid hb
  clear hrow hb
  go_enter Tryz.func98, Tryz.ntmps98
  go_wp2
  go_loopw [8] (fun i wr => ∃ k : Nat, k ≤ ss.length ∧ i = .int .i64 k ∧ Bd wr b (l ++ catB (ss.take k)) ∧ KB b w wr) (fun i _ => ss.length - (intOf i).toNat)
  case atStart => exact ⟨0, Nat.zero_le _, rfl, by simpa [catB] using HB.out, KB.refl _ _⟩
  case round =>
    obtain ⟨k, hk, rfl, hbd, hkb⟩ := hrel
    by_cases hlt : k < ss.length
    · have hrow := hkb.cells HR.out hne (by decide)
      have hc : wr.cell? ⟨pb, k, none⟩ = some (.string ss[k]) := by rw [World.cell?]; simp only [hrow]; simp [hlt]
      have hct := catB_take ss k hlt
      have hll : (catB (ss.take (k + 1))).length ≤ (catB ss).length := by
        have e : catB ss = catB (ss.take (k + 1)) ++ catB (ss.drop (k + 1)) := by unfold catB; rw [← List.flatMap_append, List.take_append_drop]
        rw [e, List.length_append]; omega
      rw [hct, List.length_append, size_len] at hll
      have cW := WriteString_ok wr b _ ss[k] hbd (by rw [List.length_append]; omega)
      rw [List.append_assoc, ← hct] at cW
      have CW := Lib.hid cW; have HKB := Lib.hid hkb
      generalize ss[k] = sk at *
      clear hct hll hrow hbd hkb cW
      go_wp2_with fail
      refine CW.out.mono ?_
      rintro e w2 ⟨rfl, hb2, hk2⟩
      dsimp only
      go_wp2_with fail
      go_roundw
      case rel => exact ⟨k + 1, by omega, by go_num, hb2, HKB.out.trans hk2⟩
      case measure => simp [intOf]; omega
    · obtain rfl : k = ss.length := by omega
      rw [List.take_length] at hbd
      have HBD := Lib.hid hbd; have HKB := Lib.hid hkb
      clear hbd hkb
      go_wp2
      go_end0
      exact ⟨rfl, HBD.out, HKB.out⟩

set_option maxRecDepth 100000 in
theorem Replace0_ok (w : World) (s : ByteArray) (h0 : s.data.toList.count 0 = 0) :
    Calls Tryz.prog 100 #[.string s, .string ⟨#[0]⟩, .string ⟨#[0, 255]⟩] w fun e w' => e = .returned (.string s) ∧ w = w' := by
  have cC := Tryz.strings_Count_one s 0 w
  unfold Lib.countByte at cC
  rw [h0] at cC
  have CC := Lib.hid cC
  have c2 : Calls Tryz.prog 150 #[.string s, .string ⟨#[0]⟩, .string ⟨#[0, 255]⟩, .int .i64 (-1)] w fun e w' => e = .returned (.string s) ∧ w = w' := by
    clear cC h0
    go_enter Tryz.func150, Tryz.ntmps150
    go_wp2_with first | (go_at_call 193; refine CC.out.mono ?_; rintro e w2 ⟨rfl, rfl⟩) | fail
    go_ret
    exact ⟨rfl, rfl⟩
  have C2 := Lib.hid c2
  clear cC CC c2 h0
  go_enter Tryz.func100, Tryz.ntmps100
  go_wp2_with first | (go_at_call 150; refine C2.out.mono ?_; rintro e w2 ⟨rfl, rfl⟩) | fail
  go_ret
  exact ⟨rfl, rfl⟩
/-- a text's part of a key -/
def partB (t : Bytes) : Bytes := 2 :: (t ++ [0, 0])
def keyT (ts : List Bytes) : Bytes := ts.flatMap partB
theorem keyT_take (ts : List Bytes) (k : Nat) (h : k < ts.length) : keyT (ts.take (k + 1)) = keyT (ts.take k) ++ partB ts[k] := by
  unfold keyT; rw [List.take_succ_eq_append_getElem h, List.flatMap_append]; simp
def partC (t : Bytes) : List Value := [.int .i64 2, .int .i64 0, .string (bs t)]
def partsC (ts : List Bytes) : Array Value := (ts.flatMap partC).toArray
theorem partsC_get (ts : List Bytes) (k : Nat) (h : k < ts.length) : (partsC ts)[k * 3]? = some (.int .i64 2) ∧ (partsC ts)[k * 3 + 1]? = some (.int .i64 0) ∧ (partsC ts)[k * 3 + 2]? = some (.string (bs ts[k])) := by
  unfold partsC
  simp only [List.getElem?_toArray]
  induction ts generalizing k with
  | nil => simp at h
  | cons t ts ih =>
    rcases k with _ | k
    · simp [partC]
    · have := ih k (by simpa using h)
      simp only [List.flatMap_cons]
      rw [show (k + 1) * 3 = k * 3 + 3 from by omega, show k * 3 + 3 + 1 = (k * 3 + 1) + 3 from by omega, show k * 3 + 3 + 2 = (k * 3 + 2) + 3 from by omega]
      simpa [partC] using this

set_option maxRecDepth 100000 in
set_option maxHeartbeats 2000000 in
theorem Key_ok (w : World) (pb : Nat) (ts : List Bytes) (cs : Array Value) (hcs : cs = partsC ts) (hrow : w.heap[pb]? = some (.cells cs 85 (0, 0))) (h1 : 1 ≤ ts.length) (h8 : ts.length ≤ 8) (hlen : (keyT ts).length ≤ 100)
    (hz : ∀ t ∈ ts, t.count 0 = 0) :
    Calls Tryz.prog 54 #[.slice (some ⟨pb, 0, none⟩) ts.length ts.length] w fun e w' => e = .returned (.tuple #[.string (bs (keyT ts)), .int .i64 0]) ∧ Below w.heap.size w w' := by
  subst hcs
  have hb0 := Bd.new w
  have hpl := lt_of_heap hrow
  have HR := Lib.hid hrow; have HB := Lib.hid hb0
  clear hrow hb0
  go_enter Tryz.func54, Tryz.ntmps54
  go_wp2
  go_loopw [17] (fun i wr => ∃ k : Nat, k ≤ ts.length ∧ i = .int .i64 k ∧ Bd wr w.heap.size (keyT (ts.take k)) ∧ KB w.heap.size w wr) (fun i _ => ts.length - (intOf i).toNat)
  case atStart => exact ⟨0, Nat.zero_le _, rfl, HB.out, KB.of_below ((Below.refl _ _).alloc (Nat.le_refl _) _) (Nat.le_refl _)⟩
  case round =>
    obtain ⟨k, hk, rfl, hbd, hkb⟩ := hrel
    clear HB
    by_cases hlt : k < ts.length
    · have hrow : wr.heap[pb]? = _ := (hkb.1.block pb hpl).trans HR.out
      obtain ⟨g0, g1, g2⟩ := partsC_get ts k hlt
      have k0 : wr.cell? ⟨pb, k * 3, none⟩ = some (.int .i64 2) := by rw [World.cell?]; simp only [hrow]; exact g0
      have k1 : wr.cell? ⟨pb, k * 3 + 1, none⟩ = some (.int .i64 0) := by rw [World.cell?]; simp only [hrow]; exact g1
      have k2 : wr.cell? ⟨pb, k * 3 + 2, none⟩ = some (.string (bs ts[k])) := by rw [World.cell?]; simp only [hrow]; exact g2
      have hz0 := hz ts[k] (List.getElem_mem hlt)
      have hkt := keyT_take ts k hlt
      have hlk : (keyT (ts.take (k + 1))).length ≤ 100 := by
        have e : keyT ts = keyT (ts.take (k + 1)) ++ keyT (ts.drop (k + 1)) := by unfold keyT; rw [← List.flatMap_append, List.take_append_drop]
        rw [e, List.length_append] at hlen; omega
      generalize ts[k] = tk at *
      have HK := Lib.hid hkt; have HBD := Lib.hid hbd; have HKB := Lib.hid hkb; have HLK := Lib.hid hlk
      have cR := fun W => Replace0_ok W (bs tk) hz0
      have CR := Lib.hid cR
      clear g0 g1 g2 hrow hkt hbd hkb hlk hz0 cR
      go_wp2_with fail
      refine (CR.out _).mono ?_
      rintro e w2 ⟨rfl, rfl⟩
      have hbW : Below wr.heap.size wr ((wr.alloc (.cells #[.int .i64 2, .int .i64 0, .string (bs tk)] 85)).alloc (.cells #[.string ⟨#[2]⟩, .string (bs tk), .string ⟨#[0, 0]⟩] 9)) :=
        ((Below.refl _ _).alloc (Nat.le_refl _) _).alloc (by simp) _
      have hrw : ((wr.alloc (.cells #[.int .i64 2, .int .i64 0, .string (bs tk)] 85)).alloc (.cells #[.string ⟨#[2]⟩, .string (bs tk), .string ⟨#[0, 0]⟩] 9)).heap[wr.heap.size + 1]? = some (.cells #[.string ⟨#[2]⟩, .string (bs tk), .string ⟨#[0, 0]⟩] 9 (0, 0)) := by
        have := heap_alloc_new (wr.alloc (.cells #[.int .i64 2, .int .i64 0, .string (bs tk)] 85)) (.cells #[.string ⟨#[2]⟩, .string (bs tk), .string ⟨#[0, 0]⟩] 9)
        simpa using this
      have hzw : w.heap.size ≤ wr.heap.size := HKB.out.1.size
      have hcat : keyT (ts.take k) ++ catB [⟨#[2]⟩, bs tk, ⟨#[0, 0]⟩] = keyT (ts.take (k + 1)) := by rw [HK.out]; simp [catB, partB]
      have cJ := join_ok _ w.heap.size (wr.heap.size + 1) (keyT (ts.take k)) [⟨#[2]⟩, bs tk, ⟨#[0, 0]⟩] _ rfl (HBD.out.below hbW) hrw (by omega) (by rw [← List.length_append, hcat]; have := HLK.out; omega) (by simp)
      rw [hcat] at cJ
      have CJ := Lib.hid cJ; have HBW := Lib.hid hbW
      clear hbW hrw hcat cJ k0 k1 k2
      dsimp only
      go_wp2_with fail
      refine CJ.out.mono ?_
      rintro e w3 ⟨rfl, hb3, hk3⟩
      dsimp only
      go_wp2_with fail
      go_roundw
      case rel => exact ⟨k + 1, by omega, by go_num, hb3, (HKB.out.trans (KB.of_below HBW.out hzw)).trans hk3⟩
      case measure => simp [intOf]; omega
    · obtain rfl : k = ts.length := by omega
      rw [List.take_length] at hbd
      have cL := BLen_ok wr w.heap.size _ hbd
      have cS := BString_ok wr w.heap.size _ hbd
      have HKB := Lib.hid hkb; have CL := Lib.hid cL; have CS := Lib.hid cS
      clear hbd hkb cL cS
      go_wp2_with first | (go_at_call 101; refine CL.out.mono ?_; rintro e w2 ⟨rfl, rfl⟩) | (go_at_call 78; refine CS.out.mono ?_; rintro e w3 ⟨rfl, _, hk3⟩) | fail
      go_ret2
      exact ⟨rfl, HKB.out.1.trans hk3.1⟩
/-- a session's key -/
def sessW : Bytes := [115, 101, 115, 115, 105, 111, 110]
def placeB (t : Bytes) : Bytes := keyT [sessW, t]
theorem tok_nz (t : Bytes) (h : isTok t = true) : t.count 0 = 0 := by
  unfold isTok at h
  simp only [Bool.and_eq_true, beq_iff_eq] at h
  rw [List.count_eq_zero]
  intro h0
  have := List.all_eq_true.1 h.2 0 h0
  revert this; decide
theorem tok_len (t : Bytes) (h : isTok t = true) : t.length = 32 := by unfold isTok at h; simp at h; simpa using h.1

set_option maxRecDepth 100000 in
theorem place_ok (w : World) (t : Bytes) (ht : isTok t = true) :
    Calls Tryz.prog 53 #[.string (bs t)] w fun e w' => e = .returned (.string (bs (placeB t))) ∧ Below w.heap.size w w' := by
  have hl := tok_len t ht
  have cK := Key_ok (w.alloc (.cells #[.int .i64 2, .int .i64 0, .string ⟨#[115, 101, 115, 115, 105, 111, 110]⟩, .int .i64 2, .int .i64 0, .string (bs t)] 85)) w.heap.size [sessW, t] _ rfl (heap_alloc_new w _) (by simp) (by simp) (by simp [keyT, partB, sessW, hl]) (by
    intro x hx; simp at hx; rcases hx with rfl | rfl
    · decide
    · exact tok_nz _ ht)
  have CK := Lib.hid cK
  clear cK hl ht
  go_enter Tryz.func53, Tryz.ntmps53
  go_wp2_with fail
  refine CK.out.mono ?_
  rintro e w2 ⟨rfl, hb⟩
  dsimp only
  go_wp2_with fail
  go_ret
  exact ⟨rfl, ((Below.refl _ _).alloc (Nat.le_refl _) _).trans (hb.mono (by simp))⟩
end Go.Proofs.YtmbfenkmabdokaaGreatDoor

namespace Go.Proofs.YtmbfenkmabdokaaGreatDoor
open Go.RowKit Go.Mp

/-- a session, its token aside -/
structure Sess where
  author : ByteArray
  role : Nat
  ends : Nat
  quota : Nat
  used : Nat
  left : Nat
  at_ : Nat
def Sess.nums (x : Sess) : List Nat := [x.role, x.ends, x.quota, x.used, x.left, x.at_]
/-- numbers that eight bytes bear -/
def Sess.Ok (x : Sess) : Prop := (∀ n ∈ x.nums, n < 9223372036854775808) ∧ x.author.size ≤ 1000
def numsB (l : List Nat) : Bytes := l.flatMap fun n => numB n 8
def Sess.enc (x : Sess) : Bytes := numsB x.nums ++ x.author.data.toList
def sessC (t : ByteArray) (x : Sess) : Array Value :=
  #[.string t, .string x.author, .int .i64 x.role, .int .i64 x.ends, .int .i64 x.quota, .int .i64 x.used, .int .i64 x.left, .int .i64 x.at_]
/-- the row of addresses of a session's numbers -/
def numR (xb : Nat) : Array Value :=
  #[.pointer (some ⟨xb, 2, none⟩), .pointer (some ⟨xb, 3, none⟩), .pointer (some ⟨xb, 4, none⟩), .pointer (some ⟨xb, 5, none⟩), .pointer (some ⟨xb, 6, none⟩), .pointer (some ⟨xb, 7, none⟩)]

set_option maxRecDepth 100000 in
theorem numbers_ok (w : World) (xb : Nat) :
    Calls Tryz.prog 94 #[.pointer (some ⟨xb, 0, none⟩)] w fun e w' => e = .returned (.slice (some ⟨w.heap.size, 0, none⟩) 6 6) ∧ w' = (w.alloc (.cells (numR xb) 152)).drew := by
  go_enter Tryz.func94, Tryz.ntmps94
  go_wp2
  refine wp_region_J (by kernel_rfl) (fun _ => True) 18 ?_
  have hS : (fun _ : World => True) w.drew := trivial
  refine wpAnyJ_ptake 0 (v := ?_) rfl (by kernel_rfl) (by kernel_rfl) (by kernel_rfl) (by decide) (fun _ _ _ h => h) (.inl ⟨rfl, fun w' => ?_⟩) hS ?_; rotate_left 1; focus (go_simp; (try rfl))
  refine wpAnyJ_ptake 1 (v := ?_) rfl (by kernel_rfl) (by kernel_rfl) (by kernel_rfl) (by decide) (fun _ _ _ h => h) (.inl ⟨rfl, fun w' => ?_⟩) hS ?_; rotate_left 1; focus (go_simp; (try rfl))
  refine wpAnyJ_ptake 2 (v := ?_) rfl (by kernel_rfl) (by kernel_rfl) (by kernel_rfl) (by decide) (fun _ _ _ h => h) (.inl ⟨rfl, fun w' => ?_⟩) hS ?_; rotate_left 1; focus (go_simp; (try rfl))
  refine wpAnyJ_ptake 3 (v := ?_) rfl (by kernel_rfl) (by kernel_rfl) (by kernel_rfl) (by decide) (fun _ _ _ h => h) (.inl ⟨rfl, fun w' => ?_⟩) hS ?_; rotate_left 1; focus (go_simp; (try rfl))
  refine wpAnyJ_ptake 4 (v := ?_) rfl (by kernel_rfl) (by kernel_rfl) (by kernel_rfl) (by decide) (fun _ _ _ h => h) (.inl ⟨rfl, fun w' => ?_⟩) hS ?_; rotate_left 1; focus (go_simp; (try rfl))
  refine wpAnyJ_ptake 5 (v := ?_) rfl (by kernel_rfl) (by kernel_rfl) (by kernel_rfl) (by decide) (fun _ _ _ h => h) (.inl ⟨rfl, fun w' => ?_⟩) hS ?_; rotate_left 1; focus (go_simp; (try rfl))
  refine wpAnyJ_ptake 6 (v := ?_) rfl (by kernel_rfl) (by kernel_rfl) (by kernel_rfl) (by decide) (fun _ _ _ h => h) (.inl ⟨rfl, fun w' => ?_⟩) hS ?_; rotate_left 1; focus (go_simp; (try rfl))
  refine wpAnyJ_ptake 7 (v := ?_) rfl (by kernel_rfl) (by kernel_rfl) (by kernel_rfl) (by decide) (fun _ _ _ h => h) (.inl ⟨rfl, fun w' => ?_⟩) hS ?_; rotate_left 1; focus (go_simp; (try rfl))
  refine wpAnyJ_ptake 8 (v := ?_) rfl (by kernel_rfl) (by kernel_rfl) (by kernel_rfl) (by decide) (fun _ _ _ h => h) (.inl ⟨rfl, fun w' => ?_⟩) hS ?_; rotate_left 1; focus (go_simp; (try rfl))
  refine wpAnyJ_ptake 9 (v := ?_) rfl (by kernel_rfl) (by kernel_rfl) (by kernel_rfl) (by decide) (fun _ _ _ h => h) (.inl ⟨rfl, fun w' => ?_⟩) hS ?_; rotate_left 1; focus (go_simp; (try rfl))
  refine wpAnyJ_ptake 10 (v := ?_) rfl (by kernel_rfl) (by kernel_rfl) (by kernel_rfl) (by decide) (fun _ _ _ h => h) (.inl ⟨rfl, fun w' => ?_⟩) hS ?_; rotate_left 1; focus (go_simp; (try rfl))
  refine wpAnyJ_ptake 11 (v := ?_) rfl (by kernel_rfl) (by kernel_rfl) (by kernel_rfl) (by decide) (fun _ _ _ h => h) (.inl ⟨rfl, fun w' => ?_⟩) hS ?_; rotate_left 1; focus (go_simp; (try rfl))
  refine wpAnyJ_ptake 12 (v := ?_) rfl (by kernel_rfl) (by kernel_rfl) (by kernel_rfl) (by decide) (fun _ _ _ h => h) (.inl ⟨rfl, fun w' => ?_⟩) hS ?_; rotate_left 1; focus (go_simp; (try rfl))
  refine wpAnyJ_ptake 13 (v := ?_) rfl (by kernel_rfl) (by kernel_rfl) (by kernel_rfl) (by decide) (fun _ _ _ h => h) (.inl ⟨rfl, fun w' => ?_⟩) hS ?_; rotate_left 1; focus (go_simp; (try rfl))
  refine wpAnyJ_ptake 14 (v := ?_) rfl (by kernel_rfl) (by kernel_rfl) (by kernel_rfl) (by decide) (fun _ _ _ h => h) (.inl ⟨rfl, fun w' => ?_⟩) hS ?_; rotate_left 1; focus (go_simp; (try rfl))
  refine wpAnyJ_ptake 15 (v := ?_) rfl (by kernel_rfl) (by kernel_rfl) (by kernel_rfl) (by decide) (fun _ _ _ h => h) (.inl ⟨rfl, fun w' => ?_⟩) hS ?_; rotate_left 1; focus (go_simp; (try rfl))
  refine wpAnyJ_ptake 16 (v := ?_) rfl (by kernel_rfl) (by kernel_rfl) (by kernel_rfl) (by decide) (fun _ _ _ h => h) (.inl ⟨rfl, fun w' => ?_⟩) hS ?_; rotate_left 1; focus (go_simp; (try rfl))
  refine wpAnyJ_ptake 17 (v := ?_) rfl (by kernel_rfl) (by kernel_rfl) (by kernel_rfl) (by decide) (fun _ _ _ h => h) (.inl ⟨rfl, fun w' => ?_⟩) hS ?_; rotate_left 1; focus (go_simp; (try rfl))
  refine wpAnyJ_one 18 (by kernel_rfl) (wpOp_step rfl (fun K hK => ?_)); go_simp; refine hK _ _ ⟨fun h => absurd rfl h, fun _ => ?_⟩; clear hK K
  refine wpAny_one' 19 (by kernel_rfl) (wpOp_step rfl (fun K hK => ?_)); go_simp; refine hK _ _ ?_; clear hK K
  refine wpAny_done' (by kernel_rfl) ?_ _
  go_simp
  go_wp2
  go_ret
  exact ⟨rfl, rfl⟩

theorem nums_get (xb k : Nat) (hk : k < 6) : (numR xb)[k]? = some (.pointer (some ⟨xb, 2 + k, none⟩)) := by
  rcases k with _ | _ | _ | _ | _ | _ | k
  · rfl
  · rfl
  · rfl
  · rfl
  · rfl
  · rfl
  · omega
theorem sess_get (t : ByteArray) (x : Sess) (k : Nat) (hk : k < 6) : (sessC t x)[2 + k]? = some (.int .i64 ((x.nums.getD k 0 : Nat) : Int)) := by
  rcases k with _ | _ | _ | _ | _ | _ | k
  · rfl
  · rfl
  · rfl
  · rfl
  · rfl
  · rfl
  · omega
theorem numsB_length (l : List Nat) : (numsB l).length = 8 * l.length := by
  induction l with
  | nil => rfl
  | cons n l ih => rw [numsB, List.flatMap_cons, List.length_append, numB_length]; rw [numsB] at ih; rw [ih]; simp; omega
theorem numsB_take (l : List Nat) (k : Nat) (h : k < l.length) : numsB (l.take (k + 1)) = numsB (l.take k) ++ numB (l.getD k 0) 8 := by
  unfold numsB; rw [List.take_succ_eq_append_getElem h, List.flatMap_append]; simp [List.getD_eq_getElem?_getD, h]

set_option maxRecDepth 100000 in
theorem Put_ok (w : World) (s t p b : Nat) (M : KV) (key v : ByteArray) (h : St w s t p b M) (hk1 : 1 ≤ key.size) (hk : key.size ≤ 100) (hv : v.size ≤ 60000) :
    Calls Tryz.prog 96 #[.pointer (some ⟨s, 0, none⟩), .string key, .string v] w fun e w' =>
      e = .returned (.int .i64 0) ∧ St w' s t p b (putM M key v) ∧ Kp (· = b) w w' := by
  have h10 := h.c10
  have cP := Lib.hid (put_new w s t p b M key v h (by omega) (by omega))
  have hne : key.toList.isEmpty = false := by
    rw [Go.Lib.toList_data]
    cases hd : key.data.toList with
    | nil => have := size_len key; rw [hd] at this; simp at this; omega
    | cons x r => rfl
  clear h
  go_enter Tryz.func96, Tryz.ntmps96
  go_wp2_with first | (go_at_call 97; refine cP.out.mono ?_; rintro e w2 ⟨rfl, hs2, hk2⟩) | fail
  go_ret
  exact ⟨rfl, hs2, hk2⟩

set_option maxRecDepth 100000 in
set_option maxHeartbeats 2000000 in
theorem save_ok (w : World) (s t p b : Nat) (M : KV) (tk : Bytes) (x : Sess) (h : St w s t p b M) (ht : isTok tk = true) (hx : x.Ok) :
    Calls Tryz.prog 47 #[.pointer (some ⟨s, 0, none⟩), .agg (sessC (bs tk) x)] w fun e w' =>
      e = .returned (.tuple #[]) ∧ St w' s t p b (putM M (bs (placeB tk)) (bs x.enc)) ∧ Kp (· = b) w w' := by
  have bx0 := heap_alloc_new w (.cells (sessC (bs tk) x) 36)
  have hs := Lib.hid h
  have cn := numbers_ok (w.alloc (.cells (sessC (bs tk) x) 36)) w.heap.size
  rw [World.size_alloc] at cn
  clear h
  go_enter Tryz.func47, Tryz.ntmps47
  go_wp2_with fail
  refine cn.mono ?_
  rintro e w1 ⟨rfl, hw1⟩
  have hz1 : w1.heap.size = w.heap.size + 1 + 1 := by rw [hw1]; simp
  have bx1 : w1.heap[w.heap.size]? = some (.cells (sessC (bs tk) x) 36 (0, 0)) := by rw [hw1]; exact (Below.heap_alloc _ _ _ (by simp)).trans bx0
  have rw1 : w1.heap[w.heap.size + 1]? = some (.cells (numR w.heap.size) 152 (0, 0)) := by
    rw [hw1]; have := heap_alloc_new (w.alloc (.cells (sessC (bs tk) x) 36)) (.cells (numR w.heap.size) 152); rw [World.size_alloc] at this; exact this
  have hb1 : Below w.heap.size w w1 := by rw [hw1]; exact (((Below.refl _ _).alloc (Nat.le_refl _) _).alloc (by simp) _).drew
  have BX := Lib.hid bx1; have RW := Lib.hid rw1; have HB := Lib.hid hb1; have HX := Lib.hid hx; have HZ := Lib.hid hz1
  clear hw1 bx0 bx1 rw1 hb1 hx hz1
  dsimp only
  go_wp2_with fail
  go_loopw [4, 11] (fun v i wr => ∃ k : Nat, k ≤ 6 ∧ i = .int .i64 k ∧ OwB wr w1.heap.size v (numsB (x.nums.take k)) ∧ Below w1.heap.size w1 wr) (fun _ i _ => 6 - (intOf i).toNat)
  case atStart => exact ⟨0, by omega, rfl, World.ownsRow_nil _ _ _ _, Below.refl _ _⟩
  case round =>
    obtain ⟨k, hk, rfl, how, hb⟩ := hrel
    by_cases hlt : k < 6
    · have r0 : wr.cell? ⟨w.heap.size + 1, k, none⟩ = some (.pointer (some ⟨w.heap.size, 2 + k, none⟩)) := by
        rw [World.cell?]; simp only [heap_below RW.out hb]; exact nums_get _ k hlt
      have r1 : wr.cell? ⟨w.heap.size, 2 + k, none⟩ = some (.int .i64 ((x.nums.getD k 0 : Nat) : Int)) := by
        rw [World.cell?]; simp only [heap_below BX.out hb]; exact sess_get _ x k hlt
      have hnk : x.nums.getD k 0 < 9223372036854775808 := by
        have hm : x.nums.getD k 0 ∈ x.nums := by
          rw [List.getD_eq_getElem?_getD, List.getElem?_eq_getElem (by exact hlt)]; exact List.getElem_mem _
        exact HX.out.1 _ hm
      have cN : ∀ W, Calls Tryz.prog 95 #[.int .i64 ((x.nums.getD k 0 : Nat) : Int), .int .i64 8] W fun e w' => e = .returned (.tuple #[.slice (some ⟨W.heap.size, 0, none⟩) 8 8, .int .i64 0]) ∧ w' = W.alloc (.cells (bcs (numB (x.nums.getD k 0) 8)).toArray 5) :=
        fun W => Number_ok (x.nums.getD k 0) 8 W (by omega) (by omega) (by omega) (by unfold maxLen; omega)
      have hst := numsB_take x.nums k hlt
      have hlen : (numsB (x.nums.take k)).length ≤ 48 := by rw [numsB_length, List.length_take]; omega
      have CN := Lib.hid cN; have HST := Lib.hid hst; have HBB := Lib.hid hb
      generalize x.nums.getD k 0 = nk at *
      generalize numsB (x.nums.take k) = q at *
      clear cN hst hb hnk
      obtain ⟨A4, c4, rfl, _⟩ := how.slice
      go_wp2_with fail
      refine (CN.out wr).mono ?_
      rintro e w2 ⟨rfl, hw2⟩
      have hr2 : RdB w2 (some ⟨wr.heap.size, 0, none⟩) (numB nk 8) := by rw [hw2]; exact arr_rd (heap_alloc_new wr _)
      have hb2 : Below w1.heap.size w1 w2 := by rw [hw2]; exact HBB.out.alloc HBB.out.size _
      have ow2 : OwB w2 w1.heap.size (.slice A4 q.length c4) q := by rw [hw2]; exact how.alloc _
      have hsrc := hr2.src 8
      rw [numB_length] at hsrc
      have hz2 := hb2.size
      obtain ⟨i8, hi8, hz8, hsz8, hby8⟩ := info_parts info_u8
      have HB2 := Lib.hid hb2; have OW2 := Lib.hid ow2
      clear hw2 hr2 hb2 how ow2
      dsimp only
      have ow2 := OW2.out
      go_wp2_with (at_builtin; refine wpList_append_src _ rfl (.tmp 22) (.tmp 23) 26 26 rfl w1.heap.size 5 i8 (.int .u8 0) 1 1 Tryz.underlying26 hi8 hz8 hsz8 hby8 rfl _ _ q.length (bcs q) rfl rfl ow2 8 _ hsrc ?_ ?_ hz2 ?_)
      · unfold maxLen; omega
      · omega
      intro v3 w3 ow3 hg3
      obtain ⟨A5, c5, rfl⟩ : ∃ A c, v3 = .slice A (q.length + 8) c := by
        rcases ow3.2 with ⟨h0, h1⟩ | ⟨g, cap, cur, h0, _⟩
        · exact ⟨none, 0, by rw [h0, h1]⟩
        · exact ⟨_, _, h0⟩
      have ow3' : OwB w3 w1.heap.size (.slice A5 (q.length + 8) c5) (numsB (x.nums.take (k + 1))) := by rw [HST.out]; exact OwB.of_app ow3 (numB_length _ _)
      have hb3 : Below w1.heap.size w1 w3 := HB2.out.grown hg3 hz2 (fun k hk => (OW2.out.lt k hk).1)
      have OW3 := Lib.hid ow3'; have HB3 := Lib.hid hb3
      clear ow2 ow3 ow3' hg3 hb3 hsrc
      go_wp2
      go_roundw
      case rel => first | exact ⟨k + 1, by omega, by go_num, OW3.out, HB3.out⟩ | ((repeat apply Exists.intro); exact ⟨⟨k + 1, by omega, by go_num, OW3.out, HB3.out⟩, rfl⟩)
      case measure => simp [intOf]; omega
    · obtain rfl : k = 6 := by omega
      have e6 : x.nums.take 6 = x.nums := rfl
      rw [e6] at how
      have hnl : (numsB x.nums).length = 48 := numsB_length _
      obtain ⟨A, c, rfl, _, _, hrd, hin⟩ := how.slice
      have HBB := Lib.hid hb
      have hbx := heap_below BX.out hb
      have hbW : Below w.heap.size w wr := HB.out.trans (hb.mono HB.out.size)
      have St1 := hs.out.below hbW
      have hcv : ∀ W, (∀ z, z ≠ b → z < wr.heap.size → W.heap[z]? = wr.heap[z]?) → (convert 26 9 (.slice A (numsB x.nums).length c)).run Tryz.prog W = .ok (.string (bs (numsB x.nums))) W := fun W k => by
        rcases hrd with h0 | ⟨b', o', rfl, h0⟩
        · rw [h0] at hnl; simp at hnl
        · have hb' : b' ≠ b ∧ b' < wr.heap.size := by
            have h1 := hin _ rfl
            have := hs.out.lb
            simp only at h1
            exact ⟨by have := HB.out.size; omega, h1.2⟩
          exact run_convert_bytes_back W 26 9 5 ⟨b', o', none⟩ c (numsB x.nums) Tryz.underlying26 Tryz.underlying5 Tryz.underlying9 (fun j hj => by
            rw [Addr.add_lit, World.cell?]; simp only [k b' hb'.1 hb'.2]
            have := h0 j hj; rw [World.cell?] at this; rw [this, List.getElem?_eq_getElem hj]; rfl)
      obtain ⟨S, hSd⟩ : ∃ S : World → Prop, ∀ w', S w' ↔ (w'.cell? ⟨w.heap.size, 0, none⟩ = some (.string (bs tk)) ∧ w'.cell? ⟨w.heap.size, 1, none⟩ = some (.string x.author) ∧ (convert 26 9 (.slice A (numsB x.nums).length c)).run Tryz.prog w' = .ok (.string (bs (numsB x.nums))) w' ∧ ¬ 9223372036854775807 < (numsB x.nums).length + x.author.size) := ⟨_, fun _ => Iff.rfl⟩
      have mkS : ∀ W, (∀ z, z ≠ b → z < wr.heap.size → W.heap[z]? = wr.heap[z]?) → S W := fun W k => by
        have hne : w.heap.size ≠ b := by have := hs.out.lb; omega
        have hlt := lt_of_heap hbx
        exact (hSd _).2 ⟨by rw [World.cell?]; simp only [k _ hne hlt, hbx]; rfl, by rw [World.cell?]; simp only [k _ hne hlt, hbx]; rfl, hcv W k, by have := HX.out.2; omega⟩
      have hS : S wr.drew := mkS _ (fun _ _ _ => rfl)
      have HSd := Lib.hid hSd; have ST1 := Lib.hid St1; have HBW := Lib.hid hbW; have MKS := Lib.hid mkS
      have hal : x.author.size ≤ 1000 := HX.out.2
      have HAL := Lib.hid hal; have HNL := Lib.hid hnl
      have hpl : 1 ≤ (bs (placeB tk)).size ∧ (bs (placeB tk)).size ≤ 100 := by
        have := tok_len tk ht
        rw [bs_size]; simp [placeB, keyT, partB, sessW, this]
      have hel : bs (numsB x.nums) ++ x.author = bs x.enc := by rw [Sess.enc, ← bs_app]
      have hes : (bs (numsB x.nums) ++ x.author).size ≤ 60000 := by rw [ByteArray.size_append, bs_size]; omega
      have CPut := Lib.hid (fun W h => Put_ok W s t p b M (bs (placeB tk)) (bs (numsB x.nums) ++ x.author) h hpl.1 hpl.2 hes)
      have HEL := Lib.hid hel
      have cPl := Lib.hid (fun W => place_ok W tk ht)
      clear hSd how hb hbx hcv hrd St1 hbW hnl e6 mkS hal hpl hin hel hes
      go_wp2
      refine wp_region_I (by kernel_rfl) S 99 ?_
      refine wpAnyS_take 0 (v := ?_) rfl (by kernel_rfl) (by kernel_rfl) (by kernel_rfl) rfl (fun _ _ _ h => h) (.inl ⟨rfl, fun w' hS' => ?_⟩) hS ?_; rotate_left 1; focus (have hf := (HSd.out w').1 hS'; (repeat (obtain ⟨_, hf⟩ := hf)); go_simp; (try rfl))
      refine wpAnyS_take 1 (v := ?_) rfl (by kernel_rfl) (by kernel_rfl) (by kernel_rfl) rfl (fun _ _ _ h => h) (.inl ⟨rfl, fun w' hS' => ?_⟩) hS ?_; rotate_left 1; focus (have hf := (HSd.out w').1 hS'; (repeat (obtain ⟨_, hf⟩ := hf)); go_simp; (try rfl))
      refine wpAnyS_take 2 (v := ?_) rfl (by kernel_rfl) (by kernel_rfl) (by kernel_rfl) rfl (fun _ _ _ h => h) (.inl ⟨rfl, fun w' hS' => ?_⟩) hS ?_; rotate_left 1; focus (have hf := (HSd.out w').1 hS'; (repeat (obtain ⟨_, hf⟩ := hf)); go_simp; (try rfl))
      refine wpAnyS_take 4 (v := ?_) rfl (by kernel_rfl) (by kernel_rfl) (by kernel_rfl) rfl (fun _ _ _ h => h) (.inl ⟨rfl, fun w' hS' => ?_⟩) hS ?_; rotate_left 1; focus (have hf := (HSd.out w').1 hS'; (repeat (obtain ⟨_, hf⟩ := hf)); go_simp; (try rfl))
      refine wpAnyS_take 6 (v := ?_) rfl (by kernel_rfl) (by kernel_rfl) (by kernel_rfl) rfl (fun _ _ _ h => h) (.inl ⟨rfl, fun w' hS' => ?_⟩) hS ?_; rotate_left 1; focus (have hf := (HSd.out w').1 hS'; (repeat (obtain ⟨_, hf⟩ := hf)); go_simp; (try rfl))
      refine wpAnyS_take 7 (v := ?_) rfl (by kernel_rfl) (by kernel_rfl) (by kernel_rfl) rfl (fun _ _ _ h => h) (.inl ⟨rfl, fun w' hS' => ?_⟩) hS ?_; rotate_left 1; focus (have hf := (HSd.out w').1 hS'; (repeat (obtain ⟨_, hf⟩ := hf)); go_simp; (try rfl))
      refine wpAnyS_take 5 (v := ?_) rfl (by kernel_rfl) (by kernel_rfl) (by kernel_rfl) rfl (fun _ _ _ h => h) (.inl ⟨rfl, fun w' hS' => ?_⟩) hS ?_; rotate_left 1; focus (have hf := (HSd.out w').1 hS'; (repeat (obtain ⟨_, hf⟩ := hf)); go_simp; (try rfl))
      refine wpAnyS_take 8 (v := ?_) rfl (by kernel_rfl) (by kernel_rfl) (by kernel_rfl) rfl (fun _ _ _ h => h) (.inl ⟨rfl, fun w' hS' => ?_⟩) hS ?_; rotate_left 1; focus (have hf := (HSd.out w').1 hS'; (repeat (obtain ⟨_, hf⟩ := hf)); go_simp; (try rfl))
      refine wpAnyI_one 3 (by kernel_rfl) (wpOp_step rfl (fun K hK => ?_)); go_simp
      refine (cPl.out _).mono ?_
      rintro e w2 ⟨rfl, hb2⟩
      have hb2' : Below wr.heap.size wr w2 := (Below.refl _ _).drew.trans hb2
      have St2 := ST1.out.below (hb2'.mono (Nat.le_refl _))
      refine hK _ _ ⟨fun _ => MKS.out _ (fun z _ hz => hb2'.block z hz), ?_⟩; clear hK K
      have hS : S w2 := MKS.out _ (fun z _ hz => hb2'.block z hz)
      refine wpAnyI_one 9 (by kernel_rfl) (wpOp_step rfl (fun K hK => ?_)); go_simp
      refine (CPut.out _ St2).mono ?_
      rintro e w3 ⟨rfl, hs3, hk3⟩
      refine hK _ _ ⟨fun _ => MKS.out _ (fun z hz hz2 => (hk3.block z (Nat.lt_of_lt_of_le hz2 hb2'.size) hz).trans (hb2'.block z hz2)), ?_⟩; clear hK K
      refine wpAnyI_done (by kernel_rfl) ?_ _
      go_simp
      go_wp2
      go_end0
      rw [← HEL.out]
      refine ⟨rfl, hs3, ?_⟩
      exact (Kp.of_below (HBW.out.trans (hb2'.mono HBW.out.size)) _).trans hk3
end Go.Proofs.YtmbfenkmabdokaaGreatDoor

namespace Go.Proofs.YtmbfenkmabdokaaGreatDoor
open Go.RowKit Go.Mp

theorem results_cell_slot {fn : Func} {p q : Tmp} {ty : TypeId} (h : fn.results = #[.cell p ty, .tmp q]) (tmps : Array Value) (w : World) (g : Nat) (cs : Array Value)
    (hp : tmps.getD p undef = .pointer (some ⟨g, 0, none⟩)) (v : Value) (hq : tmps.getD q undef = v)
    (hr : (loadVar ty ⟨g, 0, none⟩).run Tryz.prog w = .ok (.agg cs) w) :
    (results fn tmps).run Tryz.prog w = .ok (.tuple #[.agg cs, v]) w := by
  have hp' : tmps[p]?.getD undef = .pointer (some ⟨g, 0, none⟩) := by simpa using hp
  have hq' : tmps[q]?.getD undef = v := by simpa using hq
  simp [results, h, hp', hq', asAddr, hr]

/-- a session of which the first k numbers are read -/
def partN (x : Sess) (k i : Nat) : Value := .int .i64 (if i < k then ((x.nums.getD i 0 : Nat) : Int) else 0)
def partC' (t : ByteArray) (x : Sess) (k : Nat) : Array Value :=
  #[.string t, .string ⟨#[]⟩, partN x k 0, partN x k 1, partN x k 2, partN x k 3, partN x k 4, partN x k 5]
theorem part_zero (t : ByteArray) (x : Sess) : partC' t x 0 = #[.string t, .string ⟨#[]⟩, .int .i64 0, .int .i64 0, .int .i64 0, .int .i64 0, .int .i64 0, .int .i64 0] := rfl
theorem part_end (t : ByteArray) (x : Sess) : (partC' t x 6).setIfInBounds 1 (.string x.author) = sessC t x := rfl
theorem part_step (t : ByteArray) (x : Sess) (k : Nat) (hk : k < 6) : (partC' t x k).setIfInBounds (2 + k) (.int .i64 ((x.nums.getD k 0 : Nat) : Int)) = partC' t x (k + 1) := by
  rcases k with _ | _ | _ | _ | _ | _ | k
  · rfl
  · rfl
  · rfl
  · rfl
  · rfl
  · rfl
  · omega
theorem part_get (t : ByteArray) (x : Sess) (k : Nat) (hk : k < 6) : ∃ v, (partC' t x k)[2 + k]? = some v := by
  rcases k with _ | _ | _ | _ | _ | _ | k
  · exact ⟨_, rfl⟩
  · exact ⟨_, rfl⟩
  · exact ⟨_, rfl⟩
  · exact ⟨_, rfl⟩
  · exact ⟨_, rfl⟩
  · exact ⟨_, rfl⟩
  · omega

theorem be_numB (n s : Nat) (h : n < 256 ^ s) : be (numB n s) = n := by
  induction s generalizing n with
  | zero => have : n = 0 := by simpa using h
            subst this; rfl
  | succ s ih =>
    have e : numB n (s + 1) = numB (n / 256) s ++ [UInt8.ofNat n] := by
      unfold numB
      rw [List.range_succ, List.map_append]
      congr 1
      · apply List.map_congr_left
        intro i hi
        have hi : i < s := by simpa using hi
        rw [Nat.div_div_eq_div_mul, show s + 1 - 1 - i = (s - 1 - i) + 1 by omega, Nat.pow_succ, Nat.mul_comm]
      · simp
    rw [e, be_snoc, ih (n / 256) (by rw [Nat.pow_succ] at h; exact Nat.div_lt_of_lt_mul (by rw [Nat.mul_comm]; exact h))]
    have : (UInt8.ofNat n).toNat = n % 256 := by simp
    rw [this]; omega
theorem nums_cut (l : List Nat) (r : Bytes) (k : Nat) (hk : k < l.length) : ((numsB l ++ r).drop (8 * k)).take 8 = numB (l.getD k 0) 8 := by
  induction l generalizing k with
  | nil => simp at hk
  | cons n l ih =>
    have e : numsB (n :: l) ++ r = numB n 8 ++ (numsB l ++ r) := by rw [numsB, List.flatMap_cons, List.append_assoc]; rfl
    rw [e]
    have hl := numB_length n 8
    cases k with
    | zero => simp [hl]
    | succ k =>
      rw [List.drop_append, hl, List.drop_of_length_le (by omega), List.nil_append, show 8 * (k + 1) - 8 = 8 * k by omega, ih k (by simpa using hk)]; rfl
theorem enc_num (x : Sess) (hx : x.Ok) (k : Nat) (hk : k < 6) : be ((x.enc.drop (8 * k)).take 8) = x.nums.getD k 0 := by
  rw [Sess.enc, nums_cut _ _ _ hk]
  refine be_numB _ _ ?_
  have hm : x.nums.getD k 0 ∈ x.nums := by
    rw [List.getD_eq_getElem?_getD, List.getElem?_eq_getElem (by exact hk)]; exact List.getElem_mem _
  exact Nat.lt_trans (hx.1 _ hm) (by decide)
theorem enc_len (x : Sess) : x.enc.length = 48 + x.author.size := by
  rw [Sess.enc, List.length_append, numsB_length, size_len]; rfl
theorem enc_author (x : Sess) : x.enc.drop 48 = x.author.data.toList := by
  have : (numsB x.nums).length = 48 := numsB_length _
  rw [Sess.enc, List.drop_append, this]; simp; omega

set_option maxRecDepth 100000 in
set_option maxHeartbeats 2000000 in
theorem read_ok (w : World) (t : ByteArray) (x : Sess) (hx : x.Ok) :
    Calls Tryz.prog 58 #[.string t, .string (bs x.enc)] w fun e w' => e = .returned (.tuple #[.agg (sessC t x), .int .i64 0]) ∧ Below w.heap.size w w' := by
  have hlen := enc_len x
  have hal : x.author.size ≤ 1000 := hx.2
  have hxe : (bs x.enc).size = 48 + x.author.size := by rw [bs_size, hlen]
  have hen := fun k hk => enc_num x hx k hk
  have hau := enc_author x
  have HX := Lib.hid hx; have HLE := Lib.hid hlen; have HXE := Lib.hid hxe; have HEN := Lib.hid hen; have HAU := Lib.hid hau
  clear hlen hxe hen hau hx
  generalize x.enc = q at *
  go_enter Tryz.func58, Tryz.ntmps58
  go_wp2_with fail
  have cn := numbers_ok ((w.alloc (.cells (partC' ⟨#[]⟩ x 0) 36)).alloc (.cells (partC' t x 0) 36)) (w.heap.size + 1)
  have hsz : ((w.alloc (.cells (partC' ⟨#[]⟩ x 0) 36)).alloc (.cells (partC' t x 0) 36)).heap.size = w.heap.size + 1 + 1 := by simp
  have b0 : ((w.alloc (.cells (partC' ⟨#[]⟩ x 0) 36)).alloc (.cells (partC' t x 0) 36)).heap[w.heap.size]? = some (.cells (partC' ⟨#[]⟩ x 0) 36 (0, 0)) := by
    simp only [heap_alloc_push, Array.getElem?_push, Array.size_push]; repeat (first | rw [if_pos trivial] | rw [if_neg (by omega)] | rw [if_pos (by omega)])
  have b1 : ((w.alloc (.cells (partC' ⟨#[]⟩ x 0) 36)).alloc (.cells (partC' t x 0) 36)).heap[w.heap.size + 1]? = some (.cells (partC' t x 0) 36 (0, 0)) := by
    simp only [heap_alloc_push, Array.getElem?_push, Array.size_push]; repeat (first | rw [if_pos trivial] | rw [if_neg (by omega)] | rw [if_pos (by omega)])
  have hb0 : Below w.heap.size w ((w.alloc (.cells (partC' ⟨#[]⟩ x 0) 36)).alloc (.cells (partC' t x 0) 36)) := ((Below.refl _ _).alloc (Nat.le_refl _) _).alloc (by simp) _
  rw [hsz] at cn
  rw [← part_zero t x, ← part_zero ⟨#[]⟩ x]
  generalize (w.alloc (.cells (partC' ⟨#[]⟩ x 0) 36)).alloc (.cells (partC' t x 0) 36) = w0 at *
  refine cn.mono ?_
  rintro e w1 ⟨rfl, hw1⟩
  have b0' : w1.heap[w.heap.size]? = some (.cells (partC' ⟨#[]⟩ x 0) 36 (0, 0)) := by rw [hw1]; exact (Below.heap_alloc _ _ _ (lt_of_heap b0)).trans b0
  have b1' : w1.heap[w.heap.size + 1]? = some (.cells (partC' t x 0) 36 (0, 0)) := by rw [hw1]; exact (Below.heap_alloc _ _ _ (lt_of_heap b1)).trans b1
  have b2' : w1.heap[w.heap.size + 1 + 1]? = some (.cells (numR (w.heap.size + 1)) 152 (0, 0)) := by rw [hw1, ← hsz]; exact heap_alloc_new _ _
  have hb1 : Below w.heap.size w w1 := by rw [hw1]; exact (hb0.alloc hb0.size _).drew
  have B0 := Lib.hid b0'; have B1 := Lib.hid b1'; have B2 := Lib.hid b2'; have HB := Lib.hid hb1
  clear hw1 b0 b1 b0' b1' b2' hb1 hb0 cn hsz w0
  dsimp only
  go_wp2_with fail
  go_loopw [7, 15] (fun v i wr => ∃ k m : Nat, k ≤ 6 ∧ m = 8 * k ∧ v = .int .i64 m ∧ i = .int .i64 k ∧ wr.heap[w.heap.size + 1]? = some (.cells (partC' t x k) 36 (0, 0)) ∧ Kp (· = w.heap.size + 1) w1 wr) (fun _ i _ => 6 - (intOf i).toNat)
  case atStart => exact ⟨0, 0, by omega, rfl, rfl, rfl, B1.out, Kp.refl _ _⟩
  case round =>
    obtain ⟨k, m, hk, hm, rfl, rfl, hr1, hkp⟩ := hrel
    by_cases hlt : k < 6
    · have hnk : x.nums.getD k 0 < 9223372036854775808 := by
        have hm : x.nums.getD k 0 ∈ x.nums := by
          rw [List.getD_eq_getElem?_getD, List.getElem?_eq_getElem (by exact hlt)]; exact List.getElem_mem _
        exact HX.out.1 _ hm
      have hbe := HEN.out k hlt
      rw [← hm] at hbe
      obtain ⟨c, W', hcv, hc1, hc2, hrd, hbw⟩ := conv_bytes wr (bs q) (by have := HXE.out; unfold maxLen; omega)
      have hr0 : wr.heap[w.heap.size + 1 + 1]? = some (.cells (numR (w.heap.size + 1)) 152 (0, 0)) := heap_kp0 B2.out hkp (by omega)
      have r0 : wr.cell? ⟨w.heap.size + 1 + 1, k, none⟩ = some (.pointer (some ⟨w.heap.size + 1, 2 + k, none⟩)) := by
        rw [World.cell?]; simp only [hr0]; exact nums_get _ k hlt
      have hqe : (bs q).data.toList = q := by simp
      rw [hqe] at hrd
      have hW1 : W'.heap[w.heap.size + 1]? = some (.cells (partC' t x k) 36 (0, 0)) := heap_below hr1 hbw
      obtain ⟨vo, hvo⟩ := part_get t x k hlt
      have r1 : W'.cell? ⟨w.heap.size + 1, 2 + k, none⟩ = some vo := by rw [World.cell?]; simp only [hW1]; exact hvo
      have f1 : W'.frozen? ⟨w.heap.size + 1, 2 + k, none⟩ = false := by simp [World.frozen?, hW1]
      have cR : Calls Tryz.prog 110 #[.slice (some ⟨wr.heap.size, 0, none⟩) q.length c, .int .i64 (m : Nat), .int .i64 8] W' fun e w' => e = .returned (.tuple #[.int .i64 ((x.nums.getD k 0 : Nat) : Int), .int .i64 0]) ∧ W' = w' := by
        have hs : (bs q).size = q.length := bs_size q
        rw [hs] at hc1
        have hl2 : q.length = 48 + x.author.size := HLE.out
        have := Read_ok wr.heap.size 0 q c m 8 W' (by unfold maxLen; omega) hc1 (by
          rcases hrd with h0 | ⟨b', o', h1, h0⟩
          · intro i hi; rw [h0] at hi; simp at hi
          · cases h1; exact h0) (by omega) (by omega) (by omega)
        rw [hbe, if_pos (by omega)] at this
        exact this
      have hst := part_step t x k hlt
      have hm40 : m ≤ 40 := by omega
      have CR := Lib.hid cR; have HST := Lib.hid hst; have HKP := Lib.hid hkp; have HBW := Lib.hid hbw; have HW1 := Lib.hid hW1; have HM := Lib.hid hm
      clear cR hst hkp hbw hW1 hm hbe hrd hqe hvo hr0 hr1 hnk
      generalize x.nums.getD k 0 = nk at *
      go_wp2_with fail
      refine CR.out.mono ?_
      rintro e w2 ⟨rfl, rfl⟩
      dsimp only
      go_wp2
      go_roundw
      case rel =>
        have hrow : (W'.setCell ⟨w.heap.size + 1, 2 + k, none⟩ (.int .i64 (nk : Int))).heap[w.heap.size + 1]? = some (.cells (partC' t x (k + 1)) 36 (0, 0)) := by
          rw [setCell_eq_setRow _ _ _ _ _ _ _ HW1.out, HST.out]; exact setRow_heap _ _ _ _ _ _ HW1.out
        first | exact ⟨k + 1, m + 8, by omega, by have := HM.out; omega, rfl, by go_num, hrow, HKP.out.trans ((Kp.of_below HBW.out _).setCell _ _ rfl)⟩ | ((repeat apply Exists.intro); exact ⟨⟨k + 1, m + 8, by omega, by have := HM.out; omega, rfl, by go_num, hrow, HKP.out.trans ((Kp.of_below HBW.out _).setCell _ _ rfl)⟩, rfl⟩)
      case measure => simp [intOf]; omega
    · obtain rfl : k = 6 := by omega
      obtain rfl : m = 48 := hm
      have hau : (bs q).extract 48 q.length = x.author := by
        have h1 : (bs q).extract 48 q.length = bs (q.drop 48) := by
          apply ByteArray.ext
          simp; rw [List.take_of_length_le (by simp)]
        rw [h1, HAU.out]
      have hql : 48 ≤ q.length := by have := HLE.out; omega
      have r1 : wr.cell? ⟨w.heap.size + 1, 1, none⟩ = some (.string ⟨#[]⟩) := by rw [World.cell?]; simp only [hr1]; rfl
      have f1 : wr.frozen? ⟨w.heap.size + 1, 1, none⟩ = false := by simp [World.frozen?, hr1]
      have hrow : (wr.setCell ⟨w.heap.size + 1, 1, none⟩ (.string x.author)).heap[w.heap.size + 1]? = some (.cells (sessC t x) 36 (0, 0)) := by
        rw [setCell_eq_setRow _ _ _ _ _ _ _ hr1, part_end]; exact setRow_heap _ _ _ _ _ _ hr1
      have hb0 : (wr.setCell ⟨w.heap.size + 1, 1, none⟩ (.string x.author)).heap[w.heap.size]? = some (.cells (partC' ⟨#[]⟩ x 0) 36 (0, 0)) := heap_kp0 B0.out (hkp.setCell _ _ rfl) (by omega)
      have hK : Below w.heap.size w (wr.setCell ⟨w.heap.size + 1, 1, none⟩ (.string x.author)) := by
        have k1 : Kp (· = w.heap.size + 1) w (wr.setCell ⟨w.heap.size + 1, 1, none⟩ (.string x.author)) := (Kp.of_below HB.out _).trans (hkp.setCell _ _ rfl)
        exact Kp.below ⟨k1.os, k1.tape, k1.output, k1.size, fun z hz _ => k1.block z hz (by omega)⟩
      have hi : (Tryz.prog.info? 36).map (·.size) = some (sessC t x).size := by kernel_rfl
      have hall : (sessC t x).all (·.oneCell') = true := by kernel_rfl
      have hfin := setRow_heap (wr.setCell ⟨w.heap.size + 1, 1, none⟩ (.string x.author)) w.heap.size _ (sessC t x) _ _ hb0
      have hfk := below_setRow hK (Nat.le_refl _) (sessC t x)
      have HRW := Lib.hid hrow; have HB0 := Lib.hid hb0; have HFIN := Lib.hid hfin; have HFK := Lib.hid hfk; have HI := Lib.hid hi; have HALL := Lib.hid hall
      clear hkp hr1 hrow hb0 hK hi hall hfin hfk
      go_wp2_with first | (refine wpList_load_row rfl 36 _ rfl (w.heap.size + 1) rfl _ (sessC t x) _ _ HRW.out Tryz.underlying36 rfl HI.out ?_) | (refine wpList_store_row rfl 36 _ _ rfl w.heap.size (sessC t x) rfl rfl 36 _ HB0.out HI.out rfl HALL.out ?_) | fail
      exact bodyPost_ret (v := .tuple #[.agg (sessC t x), .int .i64 0]) (results_cell_slot (p := 4) (q := 5) (ty := 36) rfl _ _ w.heap.size _ rfl _ rfl (run_loadVar_row _ w.heap.size 36 36 _ (0, 0) _ HFIN.out Tryz.underlying36 rfl HI.out)) rfl ⟨rfl, HFK.out⟩
end Go.Proofs.YtmbfenkmabdokaaGreatDoor

namespace Go.Proofs.YtmbfenkmabdokaaGreatDoor
open Go.RowKit Go.Mp

/-- the empty session's cells -/
def zeroS : Array Value := #[.string ⟨#[]⟩, .string ⟨#[]⟩, .int .i64 0, .int .i64 0, .int .i64 0, .int .i64 0, .int .i64 0, .int .i64 0]

theorem hiS : (Tryz.prog.info? 36).map (·.size) = some zeroS.size := by kernel_rfl

set_option maxRecDepth 100000 in
set_option maxHeartbeats 2000000 in
theorem load_none (w : World) (s t p b : Nat) (M : KV) (tk : Bytes) (h : St w s t p b M) (ht : isTok tk = true) (hg : getM M (bs (placeB tk)) = none) :
    Calls Tryz.prog 45 #[.pointer (some ⟨s, 0, none⟩), .string (bs tk)] w fun e w' => e = .returned (.tuple #[.agg zeroS, .int .i64 190]) ∧ Below w.heap.size w w' := by
  have cP := Lib.hid (fun W => place_ok W tk ht)
  have hwz := heap_alloc_new w (.cells zeroS 36)
  have hb0 : Below w.heap.size w (w.alloc (.cells zeroS 36)) := (Below.refl _ _).alloc (Nat.le_refl _) _
  have hsz : w.heap.size < (w.alloc (.cells zeroS 36)).heap.size := by simp
  have HWZ := Lib.hid hwz; have HB0 := Lib.hid hb0; have HS := Lib.hid h; have HG := Lib.hid hg; have HSZ := Lib.hid hsz
  clear h hg hwz hb0 hsz
  go_enter Tryz.func45, Tryz.ntmps45
  go_wp2_with fail
  refine (cP.out _).mono ?_
  rintro e w1 ⟨rfl, hb1⟩
  have hw1 := HB0.out.trans (hb1.mono HB0.out.size)
  have hz1 : w1.heap[w.heap.size]? = some (.cells zeroS 36 (0, 0)) := by rw [hb1.block _ HSZ.out]; exact HWZ.out
  have hG := Get_ok w1 s t p b M (bs (placeB tk)) (HS.out.below hw1)
  rw [HG.out] at hG
  have HW1 := Lib.hid hw1; have HZ1 := Lib.hid hz1; have HGG := Lib.hid hG
  clear hb1 hw1 hz1 hG
  dsimp only
  go_wp2_with fail
  refine HGG.out.mono ?_
  rintro e w2 ⟨rfl, hb2⟩
  have hw2 := HW1.out.trans (hb2.mono HW1.out.size)
  have hz2 := heap_below HZ1.out hb2
  have hD := Lib.hid (Dead_ok w2 s t p b M (HS.out.below hw2))
  have HW2 := Lib.hid hw2; have HZ2 := Lib.hid hz2
  clear hb2 hw2 hz2
  dsimp only
  go_wp2_with fail
  refine hD.out.mono ?_
  rintro e w3 ⟨rfl, rfl⟩
  dsimp only
  have hfin := setRow_heap w2 w.heap.size _ zeroS _ _ HZ2.out
  have hfk := below_setRow HW2.out (Nat.le_refl _) zeroS
  have HFIN := Lib.hid hfin; have HFK := Lib.hid hfk
  clear hfin hfk
  have hall : zeroS.all (·.oneCell') = true := by kernel_rfl
  go_wp2_with first | (refine wpList_store_row rfl 36 _ _ rfl w.heap.size zeroS rfl rfl 36 _ HZ2.out hiS rfl hall ?_) | fail
  exact bodyPost_ret (v := .tuple #[.agg zeroS, .int .i64 190]) (results_cell_slot (p := 4) (q := 5) (ty := 36) rfl _ _ w.heap.size _ rfl _ rfl (run_loadVar_row _ w.heap.size 36 36 _ (0, 0) _ HFIN.out Tryz.underlying36 rfl hiS)) rfl ⟨rfl, HFK.out⟩

set_option maxRecDepth 100000 in
set_option maxHeartbeats 2000000 in
theorem load_some (w : World) (s t p b : Nat) (M : KV) (tk : Bytes) (x : Sess) (h : St w s t p b M) (ht : isTok tk = true) (hg : getM M (bs (placeB tk)) = some (bs x.enc)) (hx : x.Ok) :
    Calls Tryz.prog 45 #[.pointer (some ⟨s, 0, none⟩), .string (bs tk)] w fun e w' => e = .returned (.tuple #[.agg (sessC (bs tk) x), .int .i64 0]) ∧ Below w.heap.size w w' := by
  have cP := Lib.hid (fun W => place_ok W tk ht)
  have hwz := heap_alloc_new w (.cells zeroS 36)
  have hb0 : Below w.heap.size w (w.alloc (.cells zeroS 36)) := (Below.refl _ _).alloc (Nat.le_refl _) _
  have hsz : w.heap.size < (w.alloc (.cells zeroS 36)).heap.size := by simp
  have cCl := Lib.hid (fun W => Clone_ok W (bs tk) (by rw [bs_size, tok_len tk ht]; decide))
  have cRd := Lib.hid (fun W => read_ok W (bs tk) x hx)
  have HWZ := Lib.hid hwz; have HB0 := Lib.hid hb0; have HS := Lib.hid h; have HG := Lib.hid hg; have HSZ := Lib.hid hsz
  clear h hg hwz hb0 hsz hx
  go_enter Tryz.func45, Tryz.ntmps45
  go_wp2_with fail
  refine (cP.out _).mono ?_
  rintro e w1 ⟨rfl, hb1⟩
  have hw1 := HB0.out.trans (hb1.mono HB0.out.size)
  have hz1 : w1.heap[w.heap.size]? = some (.cells zeroS 36 (0, 0)) := by rw [hb1.block _ HSZ.out]; exact HWZ.out
  have hG := Get_ok w1 s t p b M (bs (placeB tk)) (HS.out.below hw1)
  rw [HG.out] at hG
  have HW1 := Lib.hid hw1; have HZ1 := Lib.hid hz1; have HGG := Lib.hid hG
  clear hb1 hw1 hz1 hG
  dsimp only
  go_wp2_with fail
  refine HGG.out.mono ?_
  rintro e w2 ⟨rfl, hb2⟩
  have hw2 := HW1.out.trans (hb2.mono HW1.out.size)
  have hz2 := heap_below HZ1.out hb2
  have hD := Lib.hid (Dead_ok w2 s t p b M (HS.out.below hw2))
  have HW2 := Lib.hid hw2; have HZ2 := Lib.hid hz2
  clear hb2 hw2 hz2
  dsimp only
  go_wp2_with fail
  refine hD.out.mono ?_
  rintro e w3 ⟨rfl, rfl⟩
  dsimp only
  go_wp2_with fail
  refine (cCl.out _).mono ?_
  rintro e w4 ⟨rfl, hb4⟩
  have hw4 := HW2.out.trans (hb4.mono HW2.out.size)
  have hz4 := heap_below HZ2.out hb4
  have HW4 := Lib.hid hw4; have HZ4 := Lib.hid hz4
  clear hb4 hw4 hz4
  dsimp only
  go_wp2_with fail
  refine (cRd.out _).mono ?_
  rintro e w5 ⟨rfl, hb5⟩
  have hw5 := HW4.out.trans (hb5.mono HW4.out.size)
  have hz5 := heap_below HZ4.out hb5
  have hfin := setRow_heap w5 w.heap.size _ (sessC (bs tk) x) _ _ hz5
  have hfk := below_setRow hw5 (Nat.le_refl _) (sessC (bs tk) x)
  have HFIN := Lib.hid hfin; have HFK := Lib.hid hfk; have HZ5 := Lib.hid hz5
  clear hb5 hw5 hz5 hfin hfk
  have hi : (Tryz.prog.info? 36).map (·.size) = some (sessC (bs tk) x).size := by kernel_rfl
  have hall : (sessC (bs tk) x).all (·.oneCell') = true := by kernel_rfl
  dsimp only
  go_wp2_with first | (refine wpList_store_row rfl 36 _ _ rfl w.heap.size (sessC (bs tk) x) rfl rfl 36 _ HZ5.out hi rfl hall ?_) | fail
  exact bodyPost_ret (v := .tuple #[.agg (sessC (bs tk) x), .int .i64 0]) (results_cell_slot (p := 4) (q := 5) (ty := 36) rfl _ _ w.heap.size _ rfl _ rfl (run_loadVar_row _ w.heap.size 36 36 _ (0, 0) _ HFIN.out Tryz.underlying36 rfl hi)) rfl ⟨rfl, HFK.out⟩
end Go.Proofs.YtmbfenkmabdokaaGreatDoor
