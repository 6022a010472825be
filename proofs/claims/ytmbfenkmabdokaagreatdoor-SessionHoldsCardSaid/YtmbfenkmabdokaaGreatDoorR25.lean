/- Parts of the proof: New, Fresh. -/
import Derived.Test.YtmbfenkmabdokaaGreatDoorR07
import Derived.Test.YtmbfenkmabdokaaGreatDoorR24
import Derived.Test.YtmbfenkmabdokaaGreatDoorR09
set_option linter.all false
namespace Go.Proofs.YtmbfenkmabdokaaGreatDoor
open Go.RowKit Go.Mp

/-- a new disk's memory: two maps, the box, the hand -/
def newW (w : World) (many : Nat) : World :=
  (((w.alloc (.map #[] 0)).alloc (.map #[] 0)).alloc (.cells #[.int .i64 many, .map (some w.heap.size), .map (some (w.heap.size + 1)), .slice none 0 0, .bool false, .int .i64 0, .bool false, .bool false] 129)).alloc
    (.cells #[.pointer (some ⟨w.heap.size + 1 + 1, 0, none⟩)] 131)

theorem New_ok (w : World) (many : Nat) (_h : many ≤ 1048576) :
    Calls Tryz.prog 35 #[.int .i64 many] w fun e w' => e = .returned (.pointer (some ⟨w.heap.size + 1 + 1 + 1, 0, none⟩)) ∧ w' = newW w many := by
  have mk := fun (t : TypeId) (w : World) => mk_map t w
  go_enter Tryz.func35, Tryz.ntmps35
  go_wp2
  go_ret
  exact ⟨rfl, rfl⟩

theorem Disk_ok (w : World) (h bx : Nat) (hh : w.cell? ⟨h, 0, none⟩ = some (.pointer (some ⟨bx, 0, none⟩))) :
    Calls Tryz.prog 37 #[.pointer (some ⟨h, 0, none⟩)] w fun e w' => e = .returned (.pointer (some ⟨w.heap.size, 0, none⟩)) ∧ w' = w.alloc (.cells #[.pointer (some ⟨bx, 0, none⟩)] 138) := by
  have hz := lt_of_cell hh
  go_enter Tryz.func37, Tryz.ntmps37
  go_wp2
  go_ret
  exact ⟨rfl, rfl⟩
end Go.Proofs.YtmbfenkmabdokaaGreatDoor

namespace Go.Proofs.YtmbfenkmabdokaaGreatDoor
open Go.RowKit Go.Mp

set_option maxRecDepth 100000 in
set_option maxHeartbeats 1000000 in
theorem storeOpen_fresh (w : World) (d bx B N secs : Nat) (hd : DiskP w d bx) (h : DiskAt w B N bx secs 0 (fmtD 2)) (h1 : 64 ≤ secs) (hE : EnvN w) (hG : 3 < B) (nd : N ≤ d) :
    Calls Tryz.prog 38 #[.pointer (some ⟨d, 0, none⟩)] w fun e w' =>
      ∃ s t p b, e = .returned (.tuple #[.pointer (some ⟨s, 0, none⟩), .nilIface]) ∧ St w' s t p b [] ∧ Kp (DF B N w) w w' ∧ w.heap.size ≤ s ∧ w.heap.size ≤ b := by
  have h2 := h.room
  have cS := Sectors_any w d bx B N secs 0 _ hd h
  have cP := fun w => parted_ok secs w h1 h2
  have HP : ∃ lg, secs / 4 = lg ∧ lg ≤ 262144 ∧ 16 ≤ lg ∧ 4 * lg ≤ secs := ⟨_, rfl, by omega, by omega, by omega⟩
  obtain ⟨lg, hlg, hlg2, hlg3, hlg4⟩ := HP
  rw [hlg] at cP
  have HPg : ∃ pg, secs - 2 - lg = pg ∧ 1 ≤ pg ∧ 2 + lg + pg ≤ secs := ⟨_, rfl, by omega, by omega⟩
  obtain ⟨pg, hpg, hpg1, hpg2⟩ := HPg
  rw [hpg] at cP
  have HPf : ∃ fr, 2 + lg = fr := ⟨_, rfl⟩
  obtain ⟨fr, hfr⟩ := HPf
  rw [hfr] at cP
  have HFR := Lib.hid hfr
  have CP := Lib.hid cP
  clear cP hlg hpg hfr
  have Hd := Lib.hid hd; have Hat := Lib.hid h; have HE := Lib.hid hE
  clear hd h hE
  have mk := fun (t : TypeId) (w : World) => mk_map t w
  go_enter Tryz.func38, Tryz.ntmps38
  go_wp2_with first | (go_at_call 65; refine cS.mono ?_; rintro e w0 ⟨rfl, rfl⟩) | (go_at_call 83; refine (CP.out _).mono ?_; rintro e w1 ⟨rfl, hb1⟩; have HB1 := Lib.hid hb1; clear hb1) | fail
  have hbA : Below w.heap.size w (w1.alloc (.cells #[.int .i64 lg, .int .i64 pg, .int .i64 fr] 100)) := HB1.out.alloc HB1.out.size _
  have pl : (w1.alloc (.cells #[.int .i64 lg, .int .i64 pg, .int .i64 fr] 100)).heap[w1.heap.size]? = some (.cells #[.int .i64 lg, .int .i64 pg, .int .i64 fr] 100 (0, 0)) := heap_alloc_new w1 _
  generalize (w1.alloc (.cells #[.int .i64 lg, .int .i64 pg, .int .i64 fr] 100)) = W1 at *
  have cH := holds_fresh W1 d bx B N secs 0 (Hd.out.below hbA) (Hat.out.below hbA) h1 (HE.out.below hbA)
  have HbA := Lib.hid hbA; have PL := Lib.hid pl
  clear hbA pl
  refine cH.mono ?_
  rintro e w2 ⟨rfl, hb2⟩
  have pl2 := heap_below PL.out hb2
  have p0 : w2.cell? ⟨w1.heap.size, 0, none⟩ = some (.int .i64 lg) := by simp [World.cell?, pl2]
  have p1 : w2.cell? ⟨w1.heap.size, 1, none⟩ = some (.int .i64 pg) := by simp [World.cell?, pl2]
  have p2 : w2.cell? ⟨w1.heap.size, 2, none⟩ = some (.int .i64 fr) := by simp [World.cell?, pl2]
  have hlt := lt_of_heap pl2
  have PL2 := Lib.hid pl2
  have HbB := Lib.hid (HbA.out.trans (hb2.mono HbA.out.size))
  clear pl2 hb2 cH
  go_wp2_with fail
  have hbC : Below w.heap.size w ((w2.alloc (.map #[] 0)).alloc (.cells (storeCells d lg pg fr 1 (.pointer none) (.pointer none) (.pointer none) w2.heap.size) 106)) :=
    (HbB.out.alloc HbB.out.size _).alloc (by have := HbB.out.size; simp; omega) _
  have sr : StoreRaw ((w2.alloc (.map #[] 0)).alloc (.cells (storeCells d lg pg fr 1 (.pointer none) (.pointer none) (.pointer none) w2.heap.size) 106)) (w2.heap.size + 1) d lg pg fr 1 (.pointer none) (.pointer none) (.pointer none) w2.heap.size := by
    have := heap_alloc_new (w2.alloc (.map #[] 0)) (.cells (storeCells d lg pg fr 1 (.pointer none) (.pointer none) (.pointer none) w2.heap.size) 106)
    simpa [StoreRaw] using this
  have mb : Mp.Is ((w2.alloc (.map #[] 0)).alloc (.cells (storeCells d lg pg fr 1 (.pointer none) (.pointer none) (.pointer none) w2.heap.size) 106)) w2.heap.size (wantL []) :=
    (Mp.Is.new (α := ByteArray) w2).keep (Below.heap_alloc _ _ _ (by simp))
  have pl3 : ((w2.alloc (.map #[] 0)).alloc (.cells (storeCells d lg pg fr 1 (.pointer none) (.pointer none) (.pointer none) w2.heap.size) 106)).heap[w1.heap.size]? = some (.cells #[.int .i64 lg, .int .i64 pg, .int .i64 fr] 100 (0, 0)) :=
    heap_below PL2.out (((Below.refl _ _).alloc (Nat.le_refl _) _).alloc (by simp) _)
  have hw1 : w.heap.size ≤ w1.heap.size := HB1.out.size
  have hsB : w.heap.size ≤ w2.heap.size := HbB.out.size
  show Calls _ _ _ ((w2.alloc (.map #[] 0)).alloc (.cells (storeCells d lg pg fr 1 (.pointer none) (.pointer none) (.pointer none) w2.heap.size) 106)) _
  have hz3 : ((w2.alloc (.map #[] 0)).alloc (.cells (storeCells d lg pg fr 1 (.pointer none) (.pointer none) (.pointer none) w2.heap.size) 106)).heap.size = w2.heap.size + 2 := by simp
  generalize ((w2.alloc (.map #[] 0)).alloc (.cells (storeCells d lg pg fr 1 (.pointer none) (.pointer none) (.pointer none) w2.heap.size) 106)) = W3 at *
  have HZ3 := Lib.hid hz3
  have Hsr := Lib.hid sr; have Hmb := Lib.hid mb; have Hpl3 := Lib.hid pl3; have HbC := Lib.hid hbC
  clear hz3 sr mb pl3 hbC p0 p1 p2
  have nw : N ≤ w.heap.size := by have := lt_of_heap Hd.out; omega
  have cR := raise_nil W3 (w2.heap.size + 1) d bx B N secs 0 lg pg fr w2.heap.size 1 _ _ _ _ Hsr.out (Hd.out.below HbC.out) (Hat.out.below HbC.out) hpg1 (by rw [← HFR.out]; omega) (by omega)
  refine cR.mono ?_
  rintro e w4 ⟨rfl, pp, tt, sr4, tr4, po4, kp4, hwt, dp4, at4⟩
  have kb4 : Kp (DF B N w) w w4 := (Kp.of_below HbC.out _).trans' kp4 (fun i hi e => by omega)
  have hb4 : Below w.heap.size w w4 := ⟨kp4.os.trans HbC.out.os, kp4.tape.trans HbC.out.tape, kp4.output.trans HbC.out.output, Nat.le_trans HbC.out.size kp4.size, fun k hk => (kp4.block k (Nat.lt_of_lt_of_le hk HbC.out.size) (by omega)).trans (HbC.out.block k hk)⟩
  have pl4 := heap_kp Hpl3.out kp4 (by show w1.heap.size ≠ w2.heap.size + 1; omega)
  have mb4 : Mp.Is w4 w2.heap.size (wantL []) := Hmb.out.keep (kp4.block _ (by rw [HZ3.out]; omega) (by show w2.heap.size ≠ w2.heap.size + 1; omega))
  have q1 : w4.cell? ⟨w1.heap.size, 0, none⟩ = some (.int .i64 lg) := by simp [World.cell?, pl4]
  obtain ⟨q7, r7⟩ := sr4.cells 7 _ rfl
  have hle4 := lt_of_heap pl4
  have hls4 := lt_of_heap sr4
  have hlt4 := lt_of_heap tr4
  have en4 := HE.out.below hb4
  have cO := walOpen_zeros w4 d bx B N secs 0 2 lg 1 (fmtD 2) dp4 at4 (by omega) (by omega) en4 (by omega) (by omega) (fun k hk => by unfold fmtD; rw [if_neg (by omega)])
  have SR4 := Lib.hid sr4; have TR4 := Lib.hid tr4; have PO4 := Lib.hid po4; have DP4 := Lib.hid dp4; have AT4 := Lib.hid at4; have KB4 := Lib.hid kb4; have EN4 := Lib.hid en4; have MB4 := Lib.hid mb4; have HB4 := Lib.hid hb4
  clear sr4 tr4 po4 kp4 dp4 at4 kb4 en4 mb4 hb4 pl4 cR
  dsimp only
  go_wp2_with fail
  refine cO.mono ?_
  rintro e w5 ⟨⟨lgp, rfl⟩, hb5⟩
  have sr5 : StoreRaw w5 (w2.heap.size + 1) d lg pg fr 1 (.pointer (some ⟨pp, 0, none⟩)) (.pointer (some ⟨tt, 0, none⟩)) (.pointer none) w2.heap.size := heap_below SR4.out hb5
  obtain ⟨t7, u7⟩ := sr5.cells 7 _ rfl
  have sr6 : StoreRaw (w5.setCell ⟨w2.heap.size + 1, 7, none⟩ (.pointer (some ⟨lgp, 0, none⟩))) (w2.heap.size + 1) d lg pg fr 1 (.pointer (some ⟨pp, 0, none⟩)) (.pointer (some ⟨tt, 0, none⟩)) (.pointer (some ⟨lgp, 0, none⟩)) w2.heap.size := StoreRaw.set 7 _ sr5 rfl
  have kp6 : Kp (fun b => b = w2.heap.size + 1) w5 (w5.setCell ⟨w2.heap.size + 1, 7, none⟩ (.pointer (some ⟨lgp, 0, none⟩))) := (Kp.refl _ w5).setCell 7 _ rfl
  have HB5 := Lib.hid hb5; have SR6 := Lib.hid sr6; have KP6 := Lib.hid kp6
  clear hb5 sr5 sr6 kp6 cO
  go_wp2_with fail
  go_loopw [76] (fun i wt => i = .int .i64 0 ∧ wt = (w5.setCell ⟨w2.heap.size + 1, 7, none⟩ (.pointer (some ⟨lgp, 0, none⟩)))) (fun _ _ => 0)
  case atStart => exact ⟨rfl, rfl⟩
  case round =>
    obtain ⟨rfl, hwr⟩ := hrel
    have HWR := Lib.hid hwr
    clear hwr
    go_wp2_with fail
    have sr7 : StoreRaw wr (w2.heap.size + 1) d lg pg fr 1 (.pointer (some ⟨pp, 0, none⟩)) (.pointer (some ⟨tt, 0, none⟩)) (.pointer (some ⟨lgp, 0, none⟩)) w2.heap.size := by rw [HWR.out]; exact SR6.out
    have kp7 : Kp (fun b => b = w2.heap.size + 1) w4 wr := by rw [HWR.out]; exact (Kp.of_below HB5.out _).trans KP6.out
    have hs4 : w2.heap.size + 1 < w4.heap.size := lt_of_heap SR4.out
    have ntr : tt ≠ w2.heap.size + 1 := by rintro rfl; have a := TR4.out; have b := SR4.out; unfold TreeAt at a; unfold StoreRaw at b; rw [a] at b; cases b
    have ndp : d ≠ w2.heap.size + 1 := by rintro rfl; have a := DP4.out; have b := SR4.out; unfold DiskP at a; unfold StoreRaw at b; rw [a] at b; cases b
    have tr7 : TreeAt wr tt pp := heap_kp TR4.out kp7 ntr
    have dp7 : DiskP wr d bx := DP4.out.keep kp7 ndp
    have po7 : PoolAt wr pp d fr pg W3.heap.size := PO4.out.keep kp7 (fun b hb hh => by rw [HZ3.out] at hh; omega)
    have at7 : DiskAt wr B N bx secs 0 (fmtD 2) := AT4.out.keep kp7 (fun b hb => ⟨by omega, fun cs t fz hh => by rw [hb] at hh; have := SR4.out; unfold StoreRaw at this; rw [this] at hh; cases hh; decide⟩)
    have en7 : EnvN wr := EN4.out.keep kp7 (by show 3 ≠ w2.heap.size + 1; have := Hat.out.lo; have := Hat.out.hi; omega)
    have mb7 : Mp.Is wr w2.heap.size (wantL []) := MB4.out.keep (kp7.block _ (by omega) (by show w2.heap.size ≠ w2.heap.size + 1; omega))
    have kb7 : Kp (DF B N w) w wr := KB4.out.trans' kp7 (fun i hi e => by omega)
    have nBN := Nat.lt_of_le_of_lt Hat.out.lo Hat.out.hi
    have cK := checkpoint_nil wr (w2.heap.size + 1) d bx B N secs 0 lg pg fr w2.heap.size tt pp W3.heap.size 1 _ (fmtD 2) sr7 tr7 po7 dp7 at7 en7 hG (by omega) (by omega) (by omega) (by omega) (fun k hk => by unfold fmtD; rw [if_neg (by omega)]) (by omega) nd (by rw [HZ3.out] at hwt; omega) (by rw [HZ3.out]; omega) (by rw [HZ3.out]; omega)
    refine cK.mono ?_
    rintro e w8 ⟨rfl, lg8, sr8, tr8, _, _, kp8⟩
    have mb8 : Mp.Is w8 w2.heap.size (wantL []) := mb7.keep (kp8.block _ (by have := lt_of_heap sr7; omega) (by
      rintro (⟨h6, h7 | ⟨cs, fz, h7⟩⟩ | h6 | ⟨h6, _⟩)
      · omega
      · obtain ⟨es, ck, h8⟩ := mb7; rw [h8.block] at h7; cases h7
      · omega
      · rw [HZ3.out] at h6; omega))
    have kb8 : Kp (DF B N w) w w8 := kb7.trans' kp8 (by
      rintro i hi (⟨h6, h7⟩ | h6 | ⟨h6, _⟩)
      · by_cases hf : DF B N w i
        · exact hf
        · refine ⟨h6, ?_⟩
          rcases h7 with h7 | ⟨cs, fz, h7⟩
          · exact .inl h7
          · rw [kb7.block i hi hf] at h7; exact .inr ⟨cs, fz, h7⟩
      · omega
      · rw [HZ3.out] at h6; omega)
    have F := Lib.hid (show St w8 (w2.heap.size + 1) tt pp w2.heap.size [] from ⟨⟨_, _, _, _, _, _, _, sr8⟩, tr8, mb8⟩)
    have K8 := Lib.hid kb8
    clear sr8 tr8 kp8 mb8 kb8 sr7 kp7 tr7 dp7 po7 at7 en7 mb7 kb7 cK
    dsimp only
    go_wp2
    go_ret2
    exact ⟨_, _, _, _, rfl, F.out, K8.out, by omega, by omega⟩

set_option maxRecDepth 100000 in
set_option maxHeartbeats 400000 in
theorem Fresh_ok (w : World) (n : Nat) (h1 : 64 ≤ n) (h2 : n ≤ 1048576) (hE : EnvN w) :
    Calls Tryz.prog 15 #[.int .i64 n] w fun e w' =>
      ∃ h s t p b, e = .returned (.tuple #[.pointer (some ⟨h, 0, none⟩), .pointer (some ⟨s, 0, none⟩)]) ∧ St w' s t p b [] ∧ Below w.heap.size w w' ∧ w.heap.size ≤ s ∧ w.heap.size ≤ b := by
  have hG : 3 < w.heap.size := lt_of_cell (hE 0 (by omega))
  have hbN : Below w.heap.size w (newW w n) :=
    ((((Below.refl _ _).alloc (Nat.le_refl _) _).alloc (by simp) _).alloc (by simp; omega) _).alloc (by simp; omega) _
  have hd0 : DiskAt (newW w n) w.heap.size (w.heap.size + 3) (w.heap.size + 2) n 0 (fmtD 0) := by
    refine ⟨by omega, by omega, h2, w.heap.size, w.heap.size + 1, .slice none 0 0, [], [], [], ?_, ⟨by omega, by omega⟩, ⟨by omega, by omega⟩, by omega, ?_, ?_, World.ownsRow_nil _ _ _ _, by simp, by simp, fun k hk => ⟨by simp [fmtD, zeros], by simp [Mp.get, fmtD]⟩⟩
    · unfold newW; simp only [heap_alloc_push, Array.getElem?_push, Array.size_push]; repeat (first | rw [if_pos trivial] | rw [if_neg (by omega)] | rw [if_pos (by omega)])
    · exact (Mp.Is.new (α := Int) w).keep (by unfold newW; simp only [heap_alloc_push, Array.getElem?_push, Array.size_push]; repeat (first | rw [if_pos trivial] | rw [if_neg (by omega)] | rw [if_pos (by omega)]))
    · have m1 := Mp.Is.new (α := Int) (w.alloc (.map #[] 0))
      rw [World.size_alloc] at m1
      refine m1.keep ?_
      unfold newW; simp only [heap_alloc_push, Array.getElem?_push, Array.size_push]; repeat (first | rw [if_pos trivial] | rw [if_neg (by omega)] | rw [if_pos (by omega)])
  have hh0 : (newW w n).heap[w.heap.size + 3]? = some (.cells #[.pointer (some ⟨w.heap.size + 1 + 1, 0, none⟩)] 131 (0, 0)) := by
    unfold newW; simp only [heap_alloc_push, Array.getElem?_push, Array.size_push]; repeat (first | rw [if_pos trivial] | rw [if_neg (by omega)] | rw [if_pos (by omega)])
  have hz0 : (newW w n).heap.size = w.heap.size + 4 := by unfold newW; simp
  have cN := New_ok w n h2
  have cN2 := Lib.hid cN
  have hE1 := hE.below hbN
  have HD0 := Lib.hid hd0; have HH0 := Lib.hid hh0; have HZ0 := Lib.hid hz0; have HBN := Lib.hid hbN; have HE1 := Lib.hid hE1
  clear cN hd0 hh0 hz0 hbN hE1 hE
  generalize newW w n = W1 at *
  go_enter Tryz.func15, Tryz.ntmps15
  go_wp2_with fail
  refine cN2.out.mono ?_
  rintro e w1 ⟨rfl, rfl⟩
  go_wp2_with fail
  have hc0 : w1.cell? ⟨w.heap.size + 1 + 1 + 1, 0, none⟩ = some (.pointer (some ⟨w.heap.size + 1 + 1, 0, none⟩)) := by rw [World.cell?]; simp only [HH0.out]; rfl
  refine (Disk_ok w1 _ _ hc0).mono ?_
  rintro e w2 ⟨rfl, rfl⟩
  have hb2 : Below w1.heap.size w1 (w1.alloc (.cells #[.pointer (some ⟨w.heap.size + 1 + 1, 0, none⟩)] 138)) := (Below.refl _ _).alloc (Nat.le_refl _) _
  have dp2 : DiskP (w1.alloc (.cells #[.pointer (some ⟨w.heap.size + 1 + 1, 0, none⟩)] 138)) w1.heap.size (w.heap.size + 2) := heap_alloc_new w1 _
  have cF := Format_disk (w1.alloc (.cells #[.pointer (some ⟨w.heap.size + 1 + 1, 0, none⟩)] 138)) w1.heap.size (w.heap.size + 2) w.heap.size (w.heap.size + 3) n dp2 (HD0.out.below hb2) h1 (by rw [HZ0.out]; omega) (by have := hb2.size; rw [HZ0.out] at this; omega) (HE1.out.below hb2) hG
  have CF := Lib.hid cF; have HB2 := Lib.hid hb2; have DP2 := Lib.hid dp2
  clear cF hb2 dp2
  dsimp only
  go_wp2_with fail
  refine CF.out.mono ?_
  rintro e w3 ⟨rfl, at3, kp3⟩
  have hh3 : w3.heap[w.heap.size + 3]? = some (.cells #[.pointer (some ⟨w.heap.size + 1 + 1, 0, none⟩)] 131 (0, 0)) := heap_df (heap_below HH0.out HB2.out) (by omega) (by decide) kp3
  have hc3 : w3.cell? ⟨w.heap.size + 1 + 1 + 1, 0, none⟩ = some (.pointer (some ⟨w.heap.size + 1 + 1, 0, none⟩)) := by rw [World.cell?]; simp only [hh3]; rfl
  have en3 := (HE1.out.below HB2.out).df hG kp3
  have AT3 := Lib.hid at3; have KP3 := Lib.hid kp3; have EN3 := Lib.hid en3
  have cD := Disk_ok w3 _ _ hc3
  clear at3 kp3 en3 hh3 hc0
  dsimp only
  go_wp2_with fail
  refine cD.mono ?_
  rintro e w4 ⟨rfl, rfl⟩
  have hb4 : Below w3.heap.size w3 (w3.alloc (.cells #[.pointer (some ⟨w.heap.size + 1 + 1, 0, none⟩)] 138)) := (Below.refl _ _).alloc (Nat.le_refl _) _
  have dp4 : DiskP (w3.alloc (.cells #[.pointer (some ⟨w.heap.size + 1 + 1, 0, none⟩)] 138)) w3.heap.size (w.heap.size + 2) := heap_alloc_new w3 _
  have hs3 : w.heap.size + 4 ≤ w3.heap.size := by have := KP3.out.size; have h5 := HB2.out.size; rw [HZ0.out] at h5; omega
  have cO := storeOpen_fresh (w3.alloc (.cells #[.pointer (some ⟨w.heap.size + 1 + 1, 0, none⟩)] 138)) w3.heap.size (w.heap.size + 2) w.heap.size (w.heap.size + 3) n dp4 (AT3.out.below hb4) h1 (EN3.out.below hb4) hG (by omega)
  have CO := Lib.hid cO; have HB4 := Lib.hid hb4
  clear cO hb4 dp4 cD hc3
  dsimp only
  go_wp2_with fail
  refine CO.out.mono ?_
  rintro e w5 ⟨s, t, p, b, rfl, st, kp5, hs, hb⟩
  have ST := Lib.hid st; have KP5 := Lib.hid kp5
  have hb4 := HB4.out.size
  clear st kp5
  dsimp only
  go_wp2
  go_ret2
  refine ⟨_, s, t, p, b, rfl, ST.out, ?_, by omega, by omega⟩
  have k1 : Kp No w (w1.alloc (.cells #[.pointer (some ⟨w.heap.size + 1 + 1, 0, none⟩)] 138)) := (Kp.of_below HBN.out No).trans (Kp.of_below HB2.out No)
  have k2 : Kp No w w3 := k1.trans' KP3.out (fun i hi hf => by have := hf.1; omega)
  have k3 : Kp No w (w3.alloc (.cells #[.pointer (some ⟨w.heap.size + 1 + 1, 0, none⟩)] 138)) := k2.trans (Kp.of_below HB4.out No)
  exact (k3.trans' KP5.out (fun i hi hf => by have := hf.1; omega)).below
end Go.Proofs.YtmbfenkmabdokaaGreatDoor
