/- Parts of the proof: Format, Equal, Holds, Pool, SortNil, Tree. -/
import Derived.Lib.Hide
import Derived.Lib.QuietBelow
import Derived.Test.YtmbfenkmabdokaaGreatDoorR03
set_option linter.all false
namespace Go.Proofs.YtmbfenkmabdokaaGreatDoor
open Go.RowKit Go.Mp

/-- the disk behind j writes -/
def fmtD (j i : Nat) : Bytes := if i = 1 ∧ 1 < j then secB 1 0 else zeros

theorem info_bs : ∃ i, Tryz.prog.info? 26 = some i ∧ i.zero = some (.slice none 0 0) ∧ i.size = 1 ∧ i.bytes = 24 := by
  have h := info_bytes
  cases hi : Tryz.prog.info? 26 with
  | none => rw [hi] at h; cases h
  | some i => rw [hi] at h; simp at h; exact ⟨i, rfl, h.1, h.2.1, h.2.2⟩

theorem mk_sector (w : World) : (Instr.makeSlice 26 (.int .i64 512) (.int .i64 512)).run Tryz.prog w = .ok (.slice (some ⟨w.heap.size, 0, none⟩) 512 512) (w.alloc (.cells (bcs zeros).toArray 5)) := by
  have := run_make_row' (P := Tryz.prog) 26 5 (.int .u8 0) 1 Tryz.underlying26 info_u8 rfl .i64 .i64 512 (by omega) (by omega) w
  rw [made_zeros] at this
  exact this

theorem own_grown {w w' : World} {base e n sz : Nat} {v : Value} {xs : List Value} (h : w.ownsRow base e sz v n xs) {row : Option Nat} (hg : w.grownBy w' row) {W : World} (hB : Below base W w) (hb : base ≤ w.heap.size) (hr : row = v.ownBlock) : Below base W w' :=
  hB.grown hg hb fun k hk => by
    rcases h.2 with ⟨rfl, _⟩ | ⟨g, cap, cur, rfl, hbg, _⟩
    · rw [hr] at hk; simp [Value.ownBlock] at hk
    · rw [hr] at hk; simp [Value.ownBlock] at hk; omega

/-- the rows that Format lays down -/
def rowsF (N H : Value) (j : Nat) : List Value := [N, H] ++ List.replicate j N
theorem rowsF_snoc (N H : Value) (j : Nat) : rowsF N H j ++ [N] = rowsF N H (j + 1) := by
  rw [rowsF, List.append_assoc, ← List.replicate_succ']; rfl
theorem rowsF_get (N H : Value) (lg j : Nat) (h : j < 2 + lg) : (rowsF N H lg)[j]? = some (if j = 1 then H else N) := by
  rcases j with _ | _ | j
  · rfl
  · rfl
  · show (List.replicate lg N)[j]? = _
    rw [List.getElem?_replicate, if_pos (by omega), if_neg (by omega)]
theorem rowsF_length (N H : Value) (j : Nat) : (rowsF N H j).length = 2 + j := by simp [rowsF]; omega
theorem fmtD_step (j : Nat) : (fun i => if i = j then (if j = 1 then secB 1 0 else zeros) else fmtD j i) = fmtD (j + 1) := by
  funext i
  unfold fmtD
  by_cases h : i = j
  · subst h
    by_cases h1 : i = 1
    · subst h1; rw [if_pos rfl, if_pos rfl, if_pos ⟨rfl, by omega⟩]
    · rw [if_pos rfl, if_neg h1, if_neg (fun hh => h1 hh.1)]
  · rw [if_neg h]
    by_cases h1 : i = 1
    · subst h1
      by_cases h2 : 1 < j
      · rw [if_pos ⟨rfl, h2⟩, if_pos ⟨rfl, by omega⟩]
      · rw [if_neg (fun hh => h2 hh.2), if_neg (fun hh => by omega)]
    · rw [if_neg (fun hh => h1 hh.1), if_neg (fun hh => h1 hh.1)]
theorem fmtD_end (lg : Nat) : fmtD (2 + lg) = fmtD 2 := by
  funext i; unfold fmtD
  by_cases h1 : i = 1
  · rw [if_pos ⟨h1, by omega⟩, if_pos ⟨h1, by omega⟩]
  · rw [if_neg (fun hh => h1 hh.1), if_neg (fun hh => h1 hh.1)]


set_option maxRecDepth 100000 in
set_option maxHeartbeats 400000 in
theorem Format_disk (w : World) (d bx B N many : Nat) (hd : DiskP w d bx) (h : DiskAt w B N bx many 0 (fmtD 0)) (h1 : 64 ≤ many) (hNd : N ≤ d) (_hNw : N ≤ w.heap.size) (hE : EnvN w) (_hG : 3 < B) :
    Calls Tryz.prog 36 #[.pointer (some ⟨d, 0, none⟩)] w fun e w' =>
      e = .returned .nilIface ∧ DiskAt w' B N bx many 0 (fmtD 2) ∧ Kp (DF B N w) w w' := by
  have h2 := h.room
  have hsec := Sectors_any w d bx B N many 0 _ hd h
  have cP := fun w => parted_ok many w h1 h2
  have cH : ∀ w, EnvN w → Calls Tryz.prog 84 #[.int .i64 1, .int .i64 (-1)] w (RetB w (secB 1 0)) := fun w hE => head_any 1 0 w (by unfold maxLen; omega) (by decide) hE
  have hmk := fun w => mk_sector w
  have e4 : ((many / 4 : Nat) : Int) = (many : Int) / 4 := by omega
  have HP : ∃ lg, many / 4 = lg ∧ lg ≤ 262144 := ⟨_, rfl, by omega⟩
  obtain ⟨lg, hlg, hlg2⟩ := HP
  clear e4
  rw [hlg] at cP
  have hd0 := lt_of_heap hd
  go_enter Tryz.func36, Tryz.ntmps36
  go_wp2_with first | (go_at_call 65; refine hsec.mono ?_; rintro e w0 ⟨rfl, rfl⟩) | (go_at_call 83; refine (cP _).mono ?_; rintro e w1 ⟨rfl, hb1⟩) | fail
  have hbW : Below w.heap.size w ((w1.alloc (.cells #[.int .i64 lg, .int .i64 ((many - 2 - lg : Nat) : Int), .int .i64 (2 + (lg : Int))] 100)).alloc (.cells (bcs zeros).toArray 5)) := (hb1.alloc hb1.size _).alloc (by have := hb1.size; simp; omega) _
  refine (cH _ (hE.below hbW)).mono ?_
  rintro e w3 ⟨⟨A3, c3, rfl, hc3, hm3, hR3, ha3, hty3⟩, hb3⟩
  have hb1s := hb1.size
  have hb3' : w1.heap.size + 2 ≤ w3.heap.size := by have := hb3.size; simpa using this
  have hl3 : (secB 1 0).length = 512 := secB_length 1 0
  rw [hl3] at hc3
  rw [hl3]
  have hB3 : Below w.heap.size w w3 := hbW.trans (hb3.mono (by simp; omega))
  have hNv : FV w3 N (.slice (some ⟨w1.heap.size + 1, 0, none⟩) 512 512) zeros := by
    have hh : w3.heap[w1.heap.size + 1]? = some (.cells (bcs zeros).toArray 5 (0, 0)) := by
      rw [hb3.block _ (by simp)]
      have := heap_alloc_new (w1.alloc (.cells #[.int .i64 lg, .int .i64 ((many - 2 - lg : Nat) : Int), .int .i64 (2 + (lg : Int))] 100)) (.cells (bcs zeros).toArray 5)
      simpa using this
    refine ⟨_, _, rfl, by rw [zeros, List.length_replicate], .inr ⟨_, _, rfl, fun i hi => ?_⟩, ?_, ?_⟩
    · rw [World.cell?]
      simp only [hh, Nat.zero_add]
      simp [bcs, bv]
      exact ⟨_, List.getElem?_eq_getElem hi, by rw [List.getElem?_eq_getElem hi]; rfl⟩
    · rintro a ⟨⟩; exact ⟨_, _, hh⟩
    · rintro a ⟨⟩; show N ≤ w1.heap.size + 1; omega
  have hHv : FV w3 N (.slice A3 512 c3) (secB 1 0) := ⟨_, _, rfl, hl3, hR3, hty3, fun a ha => by have := (ha3 a ha).1; simp at this; omega⟩
  have hplan : w3.cell? ⟨w1.heap.size, 0, none⟩ = some (.int .i64 lg) := by
    rw [hb3.cell (p := ⟨w1.heap.size, 0, none⟩) (by simp; omega)]
    rw [((Below.refl (w1.heap.size + 1) _).alloc (by simp) _).cell (p := ⟨w1.heap.size, 0, none⟩) (by simp)]
    exact World.cell?_alloc_at _ _ _ _ rfl
  have hlt3 : w1.heap.size < w3.heap.size := by omega
  have HN := Lib.hid hNv
  have HH := Lib.hid hHv
  have Hat := Lib.hid (h.below hB3)
  have Hd := Lib.hid (hd.below hB3)
  clear hNv hHv h hd hbW hb3 hR3 ha3 hty3 hE hmk cP hsec cH
  go_wp2_with fail
  go_loopw [6, 25] (fun u i wr => ∃ j : Nat, j ≤ lg ∧ i = .int .i64 j ∧ wr.ownsRow w3.heap.size 26 1 u (2 + j) (rowsF (.slice (some ⟨w1.heap.size + 1, 0, none⟩) 512 512) (.slice A3 512 c3) j) ∧ Below w3.heap.size w3 wr) (fun _ i _ => lg - (intOf i).toNat)
  case atStart =>
    refine ⟨0, Nat.zero_le _, rfl, ⟨by rw [rowsF_length], .inr ⟨w3.heap.size, 2, _, rfl, Nat.le_refl _, heap_alloc_new w3 _, by omega, by unfold maxLen; omega, rfl, rfl⟩⟩, (Below.refl _ _).alloc (Nat.le_refl _) _⟩
  case round =>
    obtain ⟨j, hj, rfl, hown, hbr⟩ := hrel
    have hszr := hbr.size
    by_cases hlt : j < lg
    · have hown2 := ownsRow_below hown ((Below.refl wr.heap.size wr).alloc (Nat.le_refl _) (.cells #[.slice (some ⟨w1.heap.size + 1, 0, none⟩) 512 512] 26))
      have hsrc : Src Tryz.prog 1 135 (.slice (some ⟨wr.heap.size, 0, none⟩) 1 1) 1 [.slice (some ⟨w1.heap.size + 1, 0, none⟩) 512 512] (wr.alloc (.cells #[.slice (some ⟨w1.heap.size + 1, 0, none⟩) 512 512] 26)) := by
        refine Src.ofSlice _ Tryz.underlying135 _ 1 1 _ rfl (fun k u hu => ?_) (by simp [Value.oneCell'])
        rcases k with _ | k
        · simp at hu; subst hu
          rw [Addr.add_lit]
          exact World.cell?_alloc_at _ _ _ _ rfl
        · simp at hu
      obtain ⟨i8, hi8, hz8, hsz8, hby8⟩ := info_bs
      have hsn := rowsF_snoc (.slice (some ⟨w1.heap.size + 1, 0, none⟩) 512 512) (.slice A3 512 c3) j
      have Hsn := Lib.hid hsn
      have Hown := Lib.hid hown2
      have Hown0 := Lib.hid hown
      clear hown hown2 hsn
      go_wp2_with (at_builtin; refine wpList_append_src _ rfl _ _ _ _ rfl w3.heap.size 26 i8 (.slice none 0 0) 1 24 Tryz.underlying135 hi8 hz8 hsz8 hby8 rfl _ _ _ _ rfl rfl Hown.out _ _ hsrc ?_ ?_ ?_ ?_)
      · unfold maxLen; omega
      · omega
      · simp; omega
      · intro v' w' hown' hg
        have hb' := own_grown Hown.out hg (hbr.alloc (by omega) _) (by simp; omega) rfl
        rw [Hsn.out] at hown'
        have hown' := Lib.hid hown'
        clear hg hsrc
        go_wp2
        go_roundw
        case rel => exact ⟨j + 1, by omega, by go_num, hown'.out, hb'⟩
        case measure => simp [intOf]; omega
    · obtain rfl : j = lg := by omega
      obtain ⟨_, ⟨_, h0⟩ | ⟨g, cap, cur, rfl, hbg, hrow, hnc, hcm, hcs, htake⟩⟩ := hown
      · omega
      have hRow := Lib.hid hrow
      have hTake := Lib.hid htake
      clear hrow htake
      go_wp2_with fail
      have hBr : Below w.heap.size w wr := hB3.trans (hbr.mono hB3.size)
      have hAt0 := Hat.out.below (hbr.mono (Nat.le_refl _))
      have hN0 := HN.out.below hbr
      have hH0 := HH.out.below hbr
      have hd0' := Hd.out.below hbr
      go_loopw [34] (fun i ws => ∃ k : Nat, k ≤ 2 + j ∧ i = .int .i64 k ∧ DiskAt ws B N bx many k (fmtD k) ∧ Kp (DF B N w) w ws ∧ DiskP ws d bx ∧ ws.heap[g]? = some (.cells cur 26 (0, 0)) ∧
        FV ws N (.slice (some ⟨w1.heap.size + 1, 0, none⟩) 512 512) zeros ∧ FV ws N (.slice A3 512 c3) (secB 1 0)) (fun i _ => 2 + j - (intOf i).toNat)
      case atStart => exact ⟨0, Nat.zero_le _, rfl, hAt0, Kp.of_below hBr _, hd0', hRow.out, hN0, hH0⟩
      case round =>
        obtain ⟨k, hk, rfl, hat, hkp, hdp, hrow, hNv, hHv⟩ := hrel
        by_cases hlt2 : k < 2 + j
        · have hget := rowsF_get (.slice (some ⟨w1.heap.size + 1, 0, none⟩) 512 512) (.slice A3 512 c3) j k hlt2
          rw [← hTake.out, Nat.mul_one, List.getElem?_take_of_lt hlt2, Array.getElem?_toList] at hget
          obtain ⟨v, l, hv, hl, hfv⟩ : ∃ v l, cur[k]? = some v ∧ l = (if k = 1 then secB 1 0 else zeros) ∧ FV wr N v l := by
            by_cases h1 : k = 1
            · rw [if_pos h1] at hget; exact ⟨_, _, hget, (if_pos h1).symm, hHv⟩
            · rw [if_neg h1] at hget; exact ⟨_, _, hget, (if_neg h1).symm, hNv⟩
          obtain ⟨Av, cv, rfl, hlv, hRv, _⟩ := hfv
          have hcell : wr.cell? ⟨g, k, none⟩ = some (.slice Av 512 cv) := by
            rw [World.cell?]; simp only [hrow]; exact hv
          have cW := Write_disk wr d bx B N many k k (fmtD k) hdp hat (by omega) (by omega) Av cv l hRv hlv
          have hst := fmtD_step k
          rw [← hl] at hst
          rw [hst] at cW
          have Hrow := Lib.hid hrow
          have HNv := Lib.hid hNv
          have HHv := Lib.hid hHv
          have Hdp := Lib.hid hdp
          have Hkp := Lib.hid hkp
          clear hget hv hl hrow hNv hHv hRv hat hdp hkp hst
          go_wp2_with first | (go_at_call 85; refine cW.mono ?_; rintro e w5 ⟨rfl, hat5, hkp5⟩) | fail
          go_roundw
          case rel =>
            refine ⟨k + 1, by omega, by go_num, hat5, DF.trans Hkp.out hkp5, Hdp.out.df hNd hkp5, ?_, HNv.out.df hkp5, HHv.out.df hkp5⟩
            rw [hkp5.block _ (lt_of_heap Hrow.out) ?_]
            · exact Hrow.out
            · rintro ⟨_, h6 | ⟨cs', fz', h6⟩⟩
              · have := hB3.size; omega
              · rw [Hrow.out] at h6; cases h6
          case measure => simp [intOf]; omega
        · obtain rfl : k = 2 + j := by omega
          rw [fmtD_end] at hat
          have cS := Sync_disk wr d bx B N many (2 + j) (fmtD 2) hdp hat (by omega)
          have Hkp := Lib.hid hkp
          clear hat hkp hrow hNv hHv hdp
          go_wp2_with first | (go_at_call 86; refine cS.mono ?_; rintro e w5 ⟨rfl, hat5, hkp5⟩) | fail
          go_ret
          exact ⟨rfl, hat5, DF.trans Hkp.out hkp5⟩
end Go.Proofs.YtmbfenkmabdokaaGreatDoor

namespace Go.Proofs.YtmbfenkmabdokaaGreatDoor
open Go.RowKit Go.Mp

set_option maxRecDepth 100000 in
set_option maxHeartbeats 400000 in
theorem Equal_same (b o c b2 o2 c2 n : Nat) (l : Bytes) (w : World) (hn : l.length = n) (hm : n ≤ maxLen) (hl : RdB w (some ⟨b, o, none⟩) l) (hl2 : RdB w (some ⟨b2, o2, none⟩) l) :
    Calls Tryz.prog 141 #[.slice (some ⟨b, o, none⟩) n c, .slice (some ⟨b2, o2, none⟩) n c2] w fun e w' => e = .returned (.bool true) ∧ Below w.heap.size w w' := by
  unfold maxLen at hm
  go_enter Tryz.func141, Tryz.ntmps141
  go_wp2_with fail
  go_loopw [13] (fun i wr => ∃ j : Nat, j ≤ n ∧ i = .int .i64 j ∧ Below w.heap.size w wr) (fun i _ => n - (intOf i).toNat)
  case atStart => exact ⟨0, Nat.zero_le _, rfl, Below.refl _ _⟩
  case round =>
    obtain ⟨j, hj, rfl, hb⟩ := hrel
    by_cases hlt : j < n
    · have h1 := hl.below hb
      have h2 := hl2.below hb
      obtain ⟨x, hx⟩ : ∃ x, l[j]?.getD 0 = x := ⟨_, rfl⟩
      have e1 : wr.cell? ⟨b, o + j, none⟩ = some (.int .u8 (x.toNat : Int)) := by
        rcases h1 with rfl | ⟨b', o', he, h1⟩
        · simp at hn; omega
        · cases he; rw [h1 j (by omega), hx]
      have e2 : wr.cell? ⟨b2, o2 + j, none⟩ = some (.int .u8 (x.toNat : Int)) := by
        rcases h2 with rfl | ⟨b', o', he, h2⟩
        · simp at hn; omega
        · cases he; rw [h2 j (by omega), hx]
      have Hb := Lib.hid hb
      clear hb h1 h2 hl hl2 hx
      go_wp2_with fail
      go_quiet (fail)
      go_wp2
      refine ⟨⟨j + 1, by omega, by go_num, below_draws Hb.out nq⟩, by simp [intOf]; omega⟩
    · obtain rfl : j = n := by omega
      go_wp2
      go_ret
      exact ⟨rfl, hb⟩
end Go.Proofs.YtmbfenkmabdokaaGreatDoor

namespace Go.Proofs.YtmbfenkmabdokaaGreatDoor
open Go.RowKit Go.Mp

theorem row_rd {w : World} {b : Nat} {l : Bytes} {t : TypeId} {fz : Nat × Nat} (h : w.heap[b]? = some (.cells (bcs l).toArray t fz)) : RdB w (some ⟨b, 0, none⟩) l := by
  refine .inr ⟨_, _, rfl, fun i hi => ?_⟩
  rw [World.cell?]
  simp only [h, Nat.zero_add]
  simp [bcs, bv]
  exact ⟨_, List.getElem?_eq_getElem hi, by rw [List.getElem?_eq_getElem hi]; rfl⟩

theorem Read_row (w : World) (b : Nat) (l : Bytes) (k size x : Nat) (hb : RdB w (some ⟨b, 0, none⟩) l) (hlen : l.length = 512) (h1 : 1 ≤ size) (h2 : size ≤ 8) (h3 : k + size ≤ 512) (hx : be ((l.drop k).take size) = x) (h63 : x < 2 ^ 63) :
    Calls Tryz.prog 110 #[.slice (some ⟨b, 0, none⟩) 512 512, .int .i64 k, .int .i64 size] w fun e w' => e = .returned (.tuple #[.int .i64 x, .int .i64 0]) ∧ w = w' := by
  have h : ∀ i, i < l.length → w.cell? ⟨b, 0 + i, none⟩ = some (.int .u8 ((l[i]?.getD 0).toNat : Int)) := by
    rcases hb with rfl | ⟨b', o', he, hb⟩
    · simp at hlen
    · cases he; exact hb
  have := Read_ok b 0 l 512 k size w (by rw [hlen]; unfold maxLen; omega) (by omega) h h1 h2 (by omega)
  rw [hx, if_pos h63, hlen] at this
  exact this

theorem zeros_be (k size : Nat) : be ((zeros.drop k).take size) = 0 := by
  rw [zeros, List.drop_replicate, List.take_replicate]
  generalize min size (512 - k) = n
  induction n with
  | zero => rfl
  | succ n ih => rw [List.replicate_succ', be_snoc, ih]; rfl
theorem sec_be1 : be (((secB 1 0).drop 4).take 8) = 1 := by kernel_rfl
theorem sec_be2 : be (((secB 1 0).drop 12).take 4) = 0 := by kernel_rfl

set_option maxRecDepth 100000 in
set_option maxHeartbeats 400000 in
theorem holds_fresh (w : World) (d bx B N many W : Nat) (hd : DiskP w d bx) (h : DiskAt w B N bx many W (fmtD 2)) (h1 : 64 ≤ many) (hE : EnvN w) :
    Calls Tryz.prog 87 #[.pointer (some ⟨d, 0, none⟩)] w fun e w' =>
      e = .returned (.tuple #[.int .i64 1, .int .i64 (-1), .bool true, .nilIface]) ∧ Below w.heap.size w w' := by
  have cH : ∀ w, EnvN w → Calls Tryz.prog 84 #[.int .i64 1, .int .i64 (-1)] w (RetB w (secB 1 0)) := fun w hE => head_any 1 0 w (by unfold maxLen; omega) (by decide) hE
  have hs0 : fmtD 2 0 = zeros := rfl
  have hs1 : fmtD 2 1 = secB 1 0 := rfl
  have hl3 : (secB 1 0).length = 512 := secB_length 1 0
  have hz3 : zeros.length = 512 := by rw [zeros, List.length_replicate]
  go_enter Tryz.func87, Tryz.ntmps87
  go_wp2_with fail
  go_loopw [6, 7, 8, 16] (fun a b c i wr => Below w.heap.size w wr ∧ (((i = .int .i64 0 ∨ i = .int .i64 1) ∧ a = .int .i64 0 ∧ b = .int .i64 0 ∧ c = .bool false) ∨ (i = .int .i64 2 ∧ a = .int .i64 1 ∧ b = .int .i64 (-1) ∧ c = .bool true))) (fun _ _ _ i _ => 2 - (intOf i).toNat)
  case atStart => exact ⟨Below.refl _ _, .inl ⟨.inl rfl, rfl, rfl, rfl⟩⟩
  case round =>
    obtain ⟨hb, ⟨rfl | rfl, rfl, rfl, rfl⟩ | ⟨rfl, rfl, rfl, rfl⟩⟩ := hrel
    · have cR := Read_disk wr d bx B N many W 0 (fmtD 2) (hd.below hb) (h.below hb) (by omega)
      rw [hs0] at cR
      clear hs0 hs1 hd h
      go_wp2_with first | (go_at_call 140; refine cR.mono ?_; rintro e w2 ⟨rfl, hb2, hrow⟩) | fail
      have hR := row_rd hrow
      have c1 : Calls Tryz.prog 110 #[.slice (some ⟨wr.heap.size, 0, none⟩) 512 512, .int .i64 4, .int .i64 8] w2 fun e w' => e = .returned (.tuple #[.int .i64 0, .int .i64 0]) ∧ w2 = w' := Read_row w2 _ zeros 4 8 0 hR hz3 (by omega) (by omega) (by omega) (zeros_be 4 8) (by decide)
      have c2 : Calls Tryz.prog 110 #[.slice (some ⟨wr.heap.size, 0, none⟩) 512 512, .int .i64 12, .int .i64 4] w2 fun e w' => e = .returned (.tuple #[.int .i64 0, .int .i64 0]) ∧ w2 = w' := Read_row w2 _ zeros 12 4 0 hR hz3 (by omega) (by omega) (by omega) (zeros_be 12 4) (by decide)
      have hB2 : Below w.heap.size w w2 := hb.trans (hb2.mono hb.size)
      clear hrow hR
      go_wp2_with first | (go_at_call 110; with_reducible refine c1.mono ?_; rintro e w3 ⟨rfl, rfl⟩) | (go_at_call 110; with_reducible refine c2.mono ?_; rintro e w3 ⟨rfl, rfl⟩) | fail
      go_roundw
      case rel => exact ⟨hB2, .inl ⟨.inr rfl, rfl, rfl, rfl⟩⟩
      case measure => simp [intOf]
    · have cR := Read_disk wr d bx B N many W 1 (fmtD 2) (hd.below hb) (h.below hb) (by omega)
      rw [hs1] at cR
      have hEr := hE.below hb
      clear hs0 hs1 hd h
      go_wp2_with first | (go_at_call 140; refine cR.mono ?_; rintro e w2 ⟨rfl, hb2, hrow⟩) | fail
      have hR := row_rd hrow
      have c1 : Calls Tryz.prog 110 #[.slice (some ⟨wr.heap.size, 0, none⟩) 512 512, .int .i64 4, .int .i64 8] w2 fun e w' => e = .returned (.tuple #[.int .i64 1, .int .i64 0]) ∧ w2 = w' := Read_row w2 _ (secB 1 0) 4 8 1 hR hl3 (by omega) (by omega) (by omega) sec_be1 (by decide)
      have c2 : Calls Tryz.prog 110 #[.slice (some ⟨wr.heap.size, 0, none⟩) 512 512, .int .i64 12, .int .i64 4] w2 fun e w' => e = .returned (.tuple #[.int .i64 0, .int .i64 0]) ∧ w2 = w' := Read_row w2 _ (secB 1 0) 12 4 0 hR hl3 (by omega) (by omega) (by omega) sec_be2 (by decide)
      have hB2 : Below w.heap.size w w2 := hb.trans (hb2.mono hb.size)
      have cH2 := cH w2 (hEr.below hb2)
      clear hrow
      have HR := Lib.hid hR
      clear hR
      go_wp2_with first | (go_at_call 110; with_reducible refine c1.mono ?_; rintro e w3 ⟨rfl, rfl⟩) | (go_at_call 110; with_reducible refine c2.mono ?_; rintro e w3 ⟨rfl, rfl⟩) | fail
      refine cH2.mono ?_
      rintro e w4 ⟨⟨A5, c5, rfl, hc5, hm5, hR5, ha5, hty5⟩, hb5⟩
      rw [hl3] at hc5
      rw [hl3]
      have hB4 : Below w.heap.size w w4 := hB2.trans (hb5.mono hB2.size)
      obtain ⟨b5, o5, rfl⟩ : ∃ b o, A5 = some ⟨b, o, none⟩ := by
        rcases hR5 with h0 | ⟨b, o, h0, _⟩
        · rw [h0] at hl3; cases hl3
        · exact ⟨b, o, h0⟩
      have cE := Equal_same b5 o5 c5 wr.heap.size 0 512 512 (secB 1 0) w4 hl3 (by unfold maxLen; omega) hR5 (HR.out.below hb5)
      have hs4 := hB4.size
      clear hR5 ha5 hty5 hb5
      go_wp2_with first | (go_at_call 141; refine cE.mono ?_; rintro e w5 ⟨rfl, hb6⟩) | fail
      go_roundw
      case rel => exact ⟨hB4.trans (hb6.mono hs4), .inr ⟨rfl, rfl, rfl, rfl⟩⟩
      case measure => simp [intOf]
    · have Hb := Lib.hid hb
      clear hs0 hs1 hd h hb cH
      go_wp2_with fail
      refine bodyPost_ret (v := .tuple #[.int .i64 1, .int .i64 (-1), .bool true, .nilIface]) (by simp [results, Tryz.results87, go_sem]) rfl ⟨rfl, Hb.out⟩
end Go.Proofs.YtmbfenkmabdokaaGreatDoor

namespace Go.Proofs.YtmbfenkmabdokaaGreatDoor
open Go.RowKit Go.Mp

theorem mk_map (t : TypeId) (w : World) : (Instr.makeMap t none).run Tryz.prog w = .ok (.map (some w.heap.size)) (w.alloc (.map #[] 0)) := rfl

/-- the memory that a new pool takes -/
def poolW (w : World) (d from_ many : Nat) : World :=
  (((w.alloc (.map #[] 0)).alloc (.map #[] 0)).alloc (.map #[] 0)).alloc
    (.cells #[.pointer (some ⟨d, 0, none⟩), .int .i64 from_, .int .i64 many, .slice none 0 0, .int .i64 0, .map (some w.heap.size), .map (some (w.heap.size + 1)), .map (some (w.heap.size + 2))] 242)
theorem poolW_below (w : World) (d from_ many : Nat) : Below w.heap.size w (poolW w d from_ many) :=
  ((((Below.refl _ _).alloc (Nat.le_refl _) _).alloc (by simp) _).alloc (by simp; omega) _).alloc (by simp; omega) _

set_option maxRecDepth 100000 in
set_option maxHeartbeats 400000 in
theorem pagerOpen_nil (w : World) (d bx B N secs W from_ many : Nat) (D : Nat → Bytes) (hd : DiskP w d bx) (h : DiskAt w B N bx secs W D) (h1 : 1 ≤ many) (h2 : from_ + many ≤ secs) :
    Calls Tryz.prog 142 #[.pointer (some ⟨d, 0, none⟩), .int .i64 from_, .int .i64 many, .slice none 0 0] w fun e w' =>
      e = .returned (.tuple #[.pointer (some ⟨w.heap.size + 3, 0, none⟩), .nilIface]) ∧ w' = poolW w d from_ many := by
  have hr := h.room
  have hs := Sectors_any w d bx B N secs W D hd h
  clear h hd
  have mk := fun (t : TypeId) (w : World) => mk_map t w
  go_enter Tryz.func142, Tryz.ntmps142
  go_wp2_with first | (go_at_call 65; refine hs.mono ?_; rintro e w0 ⟨rfl, rfl⟩) | fail
  go_loopw [49] (fun i wr => i = .int .i64 0 ∧ wr = poolW w d from_ many) (fun _ _ => 0)
  case atStart => exact ⟨rfl, rfl⟩
  case round =>
    obtain ⟨rfl, rfl⟩ := hrel
    go_wp2
    go_ret2
    exact ⟨rfl, rfl⟩

/-- a row of numbers, from a start on -/
def Iota (w : World) (b n : Nat) : Prop := ∀ i, i < n → w.cell? ⟨b, i, none⟩ = some (.int .i64 i)

set_option maxRecDepth 100000 in
set_option maxHeartbeats 400000 in
theorem pagerOpen_all (w : World) (d bx B N secs W from_ many kb c : Nat) (D : Nat → Bytes) (hd : DiskP w d bx) (h : DiskAt w B N bx secs W D) (h1 : 1 ≤ many) (h2 : from_ + many ≤ secs) (hI : Iota w kb many) :
    Calls Tryz.prog 142 #[.pointer (some ⟨d, 0, none⟩), .int .i64 from_, .int .i64 many, .slice (some ⟨kb, 0, none⟩) many c] w fun e w' =>
      e = .returned (.tuple #[.pointer (some ⟨w.heap.size + 3, 0, none⟩), .nilIface]) ∧ Below w.heap.size w w' := by
  have hr := h.room
  have hs := Sectors_any w d bx B N secs W D hd h
  clear h hd
  have mk := fun (t : TypeId) (w : World) => mk_map t w
  go_enter Tryz.func142, Tryz.ntmps142
  go_wp2_with first | (go_at_call 65; refine hs.mono ?_; rintro e w0 ⟨rfl, rfl⟩) | fail
  have hpb := poolW_below w d from_ many
  have hfm : (poolW w d from_ many).heap[w.heap.size + 1]? = some (.map #[] 0) := by
    unfold poolW
    rw [Below.heap_alloc _ _ _ (by simp), Below.heap_alloc _ _ _ (by simp)]
    have := heap_alloc_new (w.alloc (.map #[] 0)) (.map #[] 0)
    simpa using this
  have hpc : (poolW w d from_ many).cell? ⟨w.heap.size + 3, 6, none⟩ = some (.map (some (w.heap.size + 1))) := by
    unfold poolW
    rw [World.cell?_alloc_at _ _ _ _ (by simp)]; rfl
  have f1 : decide ((from_ : Int) < 0) = false := decide_eq_false (by omega)
  have f2 : decide (secs < from_) = false := decide_eq_false (by omega)
  have f3 : decide ((many : Int) < 1) = false := decide_eq_false (by omega)
  have f4 : decide ((1048576 : Int) < many) = false := decide_eq_false (by omega)
  have f5 : decide ((secs : Int) - from_ < many) = false := decide_eq_false (by omega)
  simp only [f1, f2, f3, f4, f5, Bool.or_self]
  clear f1 f2 f3 f4 f5
  go_loopw [49] (fun i wr => ∃ j : Nat, j ≤ many ∧ i = .int .i64 j ∧ Below w.heap.size w wr ∧ w.heap.size + 3 < wr.heap.size ∧ wr.cell? ⟨w.heap.size + 3, 6, none⟩ = some (.map (some (w.heap.size + 1))) ∧ ∃ L : List (Int × Value), Mp.Is wr (w.heap.size + 1) L) (fun i _ => many - (intOf i).toNat)
  case atStart =>
    exact ⟨0, Nat.zero_le _, rfl, hpb, by simp, hpc, [], #[], 0, hfm, by simp [Rep], by simp, by simp, by simp⟩
  case round =>
    obtain ⟨j, hj, rfl, hb, hlt, hc, L, hL⟩ := hrel
    clear hpb hfm hpc
    by_cases hl : j < many
    · have k1 : wr.cell? ⟨kb, j, none⟩ = some (.int .i64 j) := by
        have := hI j hl
        rw [hb.cell (p := ⟨kb, j, none⟩) (lt_of_cell this)]; exact this
      have k2 : 0 < j → wr.cell? ⟨kb, j - 1, none⟩ = some (.int .i64 ((j - 1 : Nat) : Int)) := fun h0 => by
        have := hI (j - 1) (by omega)
        rw [hb.cell (p := ⟨kb, j - 1, none⟩) (lt_of_cell this)]; exact this
      obtain ⟨o, hup, hL2⟩ := run_update (P := Tryz.prog) 240 3 4 Tryz.underlying240 Tryz.underlying3 hL (j : Int) (.bool true)
      have hup : (Instr.mapUpdate 240 (.map (some (w.heap.size + 1))) (.int .i64 j) (.bool true)).run Tryz.prog wr = .ok () (put wr (w.heap.size + 1) o) := hup
      have gg := put_grown wr (w.heap.size + 1) o
      have gs : (put wr (w.heap.size + 1) o).heap.size = wr.heap.size := put_size wr (w.heap.size + 1) o
      have hb2 : Below w.heap.size w (put wr (w.heap.size + 1) o) := hb.grown gg hb.size (fun k hk => by cases hk; omega)
      have hc2 : (put wr (w.heap.size + 1) o).cell? ⟨w.heap.size + 3, 6, none⟩ = some (.map (some (w.heap.size + 1))) := by
        rw [World.cell?_of_block (gg.block (w.heap.size + 3) hlt (by simp))]; exact hc
      have Hb := Lib.hid hb2
      have Hc := Lib.hid hc2
      have HL := Lib.hid hL2
      clear hb hL hL2 hb2 hc2 gg hI
      rcases Nat.eq_zero_or_pos j with rfl | hpos
      · clear k2
        have hup0 : (Instr.mapUpdate 240 (.map (some (w.heap.size + 1))) (.int .i64 0) (.bool true)).run Tryz.prog wr = .ok () (put wr (w.heap.size + 1) o) := hup
        clear hup
        go_wp2
        go_roundw
        case rel => exact ⟨1, by omega, rfl, Hb.out, by rw [gs]; exact hlt, Hc.out, _, HL.out⟩
        case measure => simp [intOf]; omega
      · obtain ⟨i, rfl⟩ : ∃ i, j = i + 1 := ⟨j - 1, by omega⟩
        have k2 := k2 hpos
        rw [Nat.add_sub_cancel] at k2
        have hup1 : (Instr.mapUpdate 240 (.map (some (w.heap.size + 1))) (.int .i64 ((i : Int) + 1)) (.bool true)).run Tryz.prog wr = .ok () (put wr (w.heap.size + 1) o) := hup
        clear hup
        go_wp2
        go_roundw
        case rel => exact ⟨i + 1 + 1, by omega, by go_num, Hb.out, by rw [gs]; exact hlt, Hc.out, _, HL.out⟩
        case measure => simp [intOf]; omega
    · obtain rfl : j = many := by omega
      go_wp2
      go_ret2
      exact ⟨rfl, hb⟩
end Go.Proofs.YtmbfenkmabdokaaGreatDoor

namespace Go.Proofs.YtmbfenkmabdokaaGreatDoor
open Go.RowKit Go.Mp

set_option maxRecDepth 100000 in
theorem insertion_nil (w : World) : Calls Tryz.prog 277 #[.slice none 0 0, .int .i64 0, .int .i64 0] w fun e w' => e = .returned (.tuple #[]) ∧ w' = w := by
  go_enter Tryz.func277, Tryz.ntmps277
  go_wp2
  go_loopw [6] (fun i wr => i = .int .i64 1 ∧ wr = w) (fun _ _ => 0)
  case atStart => exact ⟨rfl, rfl⟩
  case round =>
    obtain ⟨rfl, rfl⟩ := hrel
    go_wp2
    go_end0
    exact ⟨rfl, rfl⟩

set_option maxRecDepth 100000 in
theorem pdq_nil (w : World) (l : Int) : Calls Tryz.prog 243 #[.slice none 0 0, .int .i64 0, .int .i64 0, .int .i64 l] w fun e w' => e = .returned (.tuple #[]) ∧ w' = w := by
  go_enter Tryz.func243, Tryz.ntmps243
  go_wp2
  go_loopw [1, 2, 3, 8, 9] (fun a b c x y wr => a = .int .i64 0 ∧ b = .int .i64 0 ∧ c = .int .i64 l ∧ x = .bool true ∧ y = .bool true ∧ wr = w) (fun _ _ _ _ _ _ => 0)
  case atStart => exact ⟨rfl, rfl, rfl, rfl, rfl, rfl⟩
  case round =>
    obtain ⟨rfl, rfl, rfl, rfl, rfl, rfl⟩ := hrel
    go_wp2_with first | (go_at_call 277; refine (insertion_nil _).mono ?_; rintro e w2 ⟨rfl, rfl⟩) | fail
    refine bodyPost_ret (v := .tuple #[]) (by simp [results, Tryz.results243, go_sem]) rfl ⟨rfl, rfl⟩

set_option maxRecDepth 100000 in
theorem SortInts_nil (w : World) : Calls Tryz.prog 187 #[.slice none 0 0] w fun e w' => e = .returned (.tuple #[]) ∧ w' = w := by
  go_enter Tryz.func187, Tryz.ntmps187
  go_wp2_with first | (go_at_call 153; go_in) | (go_at_call 204; go_in) | (go_at_call 205; go_in) | (go_at_call 243; refine (pdq_nil _ _).mono ?_; rintro e w2 ⟨rfl, rfl⟩) | fail
  go_end0
  exact ⟨rfl, rfl⟩
end Go.Proofs.YtmbfenkmabdokaaGreatDoor

namespace Go.Proofs.YtmbfenkmabdokaaGreatDoor
open Go.RowKit Go.Mp

/-- a tree without pages, over a pool -/
def TreeAt (w : World) (t p : Nat) : Prop := w.heap[t]? = some (.cells #[.pointer (some ⟨p, 0, none⟩), .int .i64 (-1), .int .i64 0] 228 (0, 0))
theorem TreeAt.root {w : World} {t p : Nat} (h : TreeAt w t p) : w.cell? ⟨t, 1, none⟩ = some (.int .i64 (-1)) := by
  unfold TreeAt at h; rw [World.cell?]; simp only [h]; rfl
theorem TreeAt.count {w : World} {t p : Nat} (h : TreeAt w t p) : w.cell? ⟨t, 2, none⟩ = some (.int .i64 0) := by
  unfold TreeAt at h; rw [World.cell?]; simp only [h]; rfl

theorem treeOpen_nil (w : World) (p : Nat) :
    Calls Tryz.prog 143 #[.pointer (some ⟨p, 0, none⟩), .int .i64 (-1)] w fun e w' =>
      e = .returned (.tuple #[.pointer (some ⟨w.heap.size, 0, none⟩), .nilIface]) ∧ w' = w.alloc (.cells #[.pointer (some ⟨p, 0, none⟩), .int .i64 (-1), .int .i64 0] 228) := by
  go_enter Tryz.func143, Tryz.ntmps143
  go_wp2
  go_ret2
  exact ⟨rfl, rfl⟩

theorem treeAll_nil (w : World) (t p : Nat) (h : TreeAt w t p) (a b : ByteArray) :
    Calls Tryz.prog 104 #[.pointer (some ⟨t, 0, none⟩), .string a, .string b] w fun e w' =>
      e = .returned (.tuple #[.slice none 0 0, .nilIface]) ∧ Below w.heap.size w w' := by
  have h1 := h.root
  have h2 := lt_of_heap h
  go_enter Tryz.func104, Tryz.ntmps104
  go_wp2
  go_ret2
  exact ⟨rfl, (Below.refl _ _).alloc (Nat.le_refl _) _⟩

theorem treeGet_nil (w : World) (t p : Nat) (h : TreeAt w t p) (a : ByteArray) :
    Calls Tryz.prog 121 #[.pointer (some ⟨t, 0, none⟩), .string a] w fun e w' =>
      e = .returned (.tuple #[.string ⟨#[]⟩, .bool false, .nilIface]) ∧ w' = w := by
  have h1 := h.root
  go_enter Tryz.func121, Tryz.ntmps121
  go_wp2
  go_loopw [7] (fun i wr => i = .int .i64 (-1) ∧ wr = w) (fun _ _ => 0)
  case atStart => exact ⟨rfl, rfl⟩
  case round =>
    obtain ⟨rfl, rfl⟩ := hrel
    go_wp2
    refine bodyPost_ret (v := .tuple #[.string ⟨#[]⟩, .bool false, .nilIface]) (by simp [results, Tryz.results121, go_sem]) rfl ⟨rfl, rfl⟩

set_option maxRecDepth 100000 in
theorem treePages_nil (w : World) (t p : Nat) (h : TreeAt w t p) :
    Calls Tryz.prog 144 #[.pointer (some ⟨t, 0, none⟩)] w fun e w' =>
      e = .returned (.tuple #[.slice none 0 0, .nilIface]) ∧ Below w.heap.size w w' := by
  have h1 := h.root
  have h2 := lt_of_heap h
  have mk := fun (t : TypeId) (w : World) => mk_map t w
  obtain ⟨W, hW⟩ : ∃ W, W = (w.alloc (.map #[] 0)).alloc (.cells #[.pointer (some ⟨t, 0, none⟩), .map (some w.heap.size), .int .i64 (-1), .int .i64 0] 290) := ⟨_, rfl⟩
  have hAt : At W w.heap.size ([] : List (Int × Value)) #[] 0 := ⟨by rw [hW, Below.heap_alloc _ _ _ (by simp)]; exact heap_alloc_new w _, by simp [Rep], by simp, by simp, by simp⟩
  have hr := run_range (P := Tryz.prog) 240 3 4 Tryz.underlying240 hAt
  obtain ⟨hr1, hr2⟩ := hr
  have hnd := fun t => run_next_done (P := Tryz.prog) hr2 t
  have hW2 : Below w.heap.size w (W.alloc (.mapIter (some w.heap.size) 0 #[] 0)) := by
    rw [hW]; exact (((Below.refl _ _).alloc (Nat.le_refl _) _).alloc (by simp) _).alloc (by simp; omega) _
  have hsz : W.heap.size = w.heap.size + 1 + 1 := by rw [hW]; simp
  obtain ⟨W2, hW2e⟩ : ∃ W2, W2 = W.alloc (.mapIter (some w.heap.size) 0 #[] 0) := ⟨_, rfl⟩
  rw [← hW2e] at hr1 hr2 hnd hW2
  rw [hW] at hr1
  rw [hsz] at hnd
  rw [← hW, hsz, hW] at hr1
  clear hr2 hAt hsz hW hW2e
  go_enter Tryz.func144, Tryz.ntmps144
  go_wp2
  go_loopw [6] (fun u wr => u = .slice none 0 0 ∧ wr = W2) (fun _ _ => 0)
  case atStart => exact ⟨rfl, rfl⟩
  case round =>
    obtain ⟨rfl, rfl⟩ := hrel
    go_wp2_with first | (go_at_call 187; refine (SortInts_nil _).mono ?_; rintro e w2 ⟨rfl, rfl⟩) | fail
    go_ret2
    exact ⟨rfl, hW2⟩
end Go.Proofs.YtmbfenkmabdokaaGreatDoor
