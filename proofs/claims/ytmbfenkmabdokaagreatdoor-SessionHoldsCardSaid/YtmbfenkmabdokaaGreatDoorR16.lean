/- Parts of the proof: All, After, First, Sess7, Spend, Spend2. -/
import Derived.Test.YtmbfenkmabdokaaGreatDoorR15
set_option linter.all false
namespace Go.Proofs.YtmbfenkmabdokaaGreatDoor
open Go.RowKit Go.Mp

def entM (e : MapEntry) : List Value := [e.key, match e.val with | .agg c => c.getD 0 undef | _ => undef]
theorem rep_mem {es : Array MapEntry} {M : KV} (h : Rep es (wantL M)) {e : MapEntry} (he : e ∈ es.toList) : ∃ k v, (k, v) ∈ M ∧ e.key = .string k ∧ e.val = .agg #[.string v, .bool false] := by
  have hm : (e.key, e.val) ∈ es.toList.map (fun e => (e.key, e.val)) := List.mem_map_of_mem he
  rw [h] at hm
  obtain ⟨q, hq, he2⟩ := List.mem_map.1 hm
  obtain ⟨m, hm2, rfl⟩ := List.mem_map.1 hq
  exact ⟨m.1, m.2, hm2, (congrArg Prod.fst he2).symm, (congrArg Prod.snd he2).symm⟩
theorem two_b' (w : World) (x y : Obj) : ((w.alloc x).alloc y).heap[w.heap.size + 1]? = some y := by
  have := heap_alloc_new (w.alloc x) y
  rw [World.size_alloc] at this; exact this
theorem info_entry : (Tryz.prog.info? 90).map (fun i => (i.zero, i.size, i.bytes)) = some (some (.agg #[.string ⟨#[]⟩, .string ⟨#[]⟩]), 2, 32) := by kernel_rfl
theorem info_entry' : ∃ i, Tryz.prog.info? 90 = some i ∧ i.zero = some (.agg #[.string ⟨#[]⟩, .string ⟨#[]⟩]) ∧ i.size = 2 ∧ i.bytes = 32 := by
  have h := info_entry
  cases hi : Tryz.prog.info? 90 with
  | none => rw [hi] at h; cases h
  | some i => rw [hi] at h; simp at h; exact ⟨i, rfl, h.1, h.2.1, h.2.2⟩
theorem It.keep {w w' : World} {r m : Nat} {es : Array MapEntry} {clock : Nat} {V R : List MapEntry} (h : It w r m es clock V R) (h1 : w'.heap[m]? = w.heap[m]?) (h2 : w'.heap[r]? = w.heap[r]?) : It w' r m es clock V R :=
  ⟨by rw [h1]; exact h.map, by rw [h2]; exact h.iter, h.perm, h.born, h.young⟩
theorem ents_flat {es : Array MapEntry} {M : KV} (h : Rep es (wantL M)) : ∀ V : List MapEntry, (∀ e ∈ V, e ∈ es.toList) → V.flatMap entM = (entsOf V).flatMap entE
  | [], _ => rfl
  | e :: V, hV => by
    obtain ⟨k, v, _, hk, hv⟩ := rep_mem h (hV e (List.mem_cons_self ..))
    have ih := ents_flat h V (fun e he => hV e (List.mem_cons_of_mem _ he))
    rw [List.flatMap_cons, ih]
    unfold entsOf
    rw [List.map_cons, List.flatMap_cons]
    congr 1
    unfold entM entM' entE
    rw [hk, hv]; rfl
def itM (w : World) (z n : Nat) : Nat := match w.heap[z]? with | some (.mapIter _ _ seen _) => n - seen.size | _ => 0
theorem It.meas {w : World} {r m : Nat} {es : Array MapEntry} {clock : Nat} {V R : List MapEntry} (h : It w r m es clock V R) (n : Nat) : itM w r n = n - V.length := by
  obtain ⟨seen, hr, hs⟩ := h.iter
  have hl : seen.size = V.length := by rw [← Array.length_toList, hs]; simp
  unfold itM; rw [hr]; simp only [hl]
theorem It.len {w : World} {r m : Nat} {es : Array MapEntry} {clock : Nat} {V R : List MapEntry} (h : It w r m es clock V R) : V.length + R.length = es.size := by
  have := h.perm.length_eq
  rw [List.length_append] at this; simpa using this
theorem enters_All1 : ∀ args (W : World), (callFunc 103 args).run Tryz.prog W = .ok (.enter 103 args) W := by
  exact enters_of Tryz.func103 (by kernel_rfl) rfl

set_option maxRecDepth 100000 in
set_option maxHeartbeats 2000000 in
theorem All_ok (w : World) (s t p b : Nat) (M : KV) (fk tk : ByteArray) (h : St w s t p b M) (hin : ∀ q ∈ M, Op.bytesLess q.1.toList fk.toList = false ∧ Op.bytesLess q.1.toList tk.toList = true) (htk : tk.toList ≠ []) (hM : M.length ≤ 1000) :
    Calls Tryz.prog 55 #[.pointer (some ⟨s, 0, none⟩), .string fk, .string tk] w fun e w' =>
      ∃ A c, ∃ d : Array (ByteArray × ByteArray), e = .returned (.slice A d.size c) ∧ d.toList.Perm M ∧ Go.Sort.SortedIn (Go.Proofs.ltOf entC) 0 d.size d ∧ RowE w.heap.size w' A d ∧ Below w.heap.size w w' := by
  obtain ⟨W0, hW0⟩ : ∃ W0, W0 = ((((w.alloc (.cells #[.pointer (some ⟨s, 0, none⟩)] 31)).alloc (.cells #[.string fk] 9)).alloc (.cells #[.string tk] 9)).alloc (.cells #[.slice none 0 0] 87)) := ⟨_, rfl⟩
  have hb0 : Below w.heap.size w W0 := by
    rw [hW0]; exact ((((Below.refl _ _).alloc (by simp) _).alloc (by simp) _).alloc (by simp; omega) _).alloc (by simp; omega) _
  have x0 : Boxed W0 w.heap.size 31 (.pointer (some ⟨s, 0, none⟩)) := by
    rw [hW0]; (unfold Boxed; simp only [heap_alloc_push, Array.getElem?_push, Array.size_push]; repeat (first | rw [if_pos trivial] | rw [if_neg (by omega)] | rw [if_pos (by omega)]))
  have x1 : Boxed W0 (w.heap.size + 1) 9 (.string fk) := by
    rw [hW0]; (unfold Boxed; simp only [heap_alloc_push, Array.getElem?_push, Array.size_push]; repeat (first | rw [if_pos trivial] | rw [if_neg (by omega)] | rw [if_pos (by omega)]))
  have x2 : Boxed W0 (w.heap.size + 1 + 1) 9 (.string tk) := by
    rw [hW0]; (unfold Boxed; simp only [heap_alloc_push, Array.getElem?_push, Array.size_push]; repeat (first | rw [if_pos trivial] | rw [if_neg (by omega)] | rw [if_pos (by omega)]))
  have x3 : Boxed W0 (w.heap.size + 1 + 1 + 1) 87 (.slice none 0 0) := by
    rw [hW0]; (unfold Boxed; simp only [heap_alloc_push, Array.getElem?_push, Array.size_push]; repeat (first | rw [if_pos trivial] | rw [if_neg (by omega)] | rw [if_pos (by omega)]))
  have hSt := h.below hb0
  have c1 := ask_ok W0 s 103 _ _ enters_All1 hSt.c10 (All1_ok W0 w.heap.size (w.heap.size + 1) (w.heap.size + 1 + 1) (w.heap.size + 1 + 1 + 1) s t p b M fk tk _ hSt x0.cell x1.cell x2.cell x3)
  have HIN := Lib.hid hin; have HM := Lib.hid hM
  clear hin hM
  have g2 : tk.toList.isEmpty = false := by simpa using htk
  have HS := Lib.hid hSt; have HW := Lib.hid hW0; have HB0 := Lib.hid hb0; have C1 := Lib.hid c1
  have X0 := Lib.hid x0; have X1 := Lib.hid x1; have X2 := Lib.hid x2; have X3 := Lib.hid x3
  clear h hSt hW0 hb0 c1 x0 x1 x2 x3
  go_enter Tryz.func55, Tryz.ntmps55
  go_wp2_with fail
  rw [← HW.out]
  refine C1.out.mono ?_
  rintro e w1 ⟨rfl, hb1⟩
  have y0 : Boxed w1 w.heap.size 31 (.pointer (some ⟨s, 0, none⟩)) := heap_below X0.out hb1
  have y1 : Boxed w1 (w.heap.size + 1) 9 (.string fk) := heap_below X1.out hb1
  have y2 : Boxed w1 (w.heap.size + 1 + 1) 9 (.string tk) := heap_below X2.out hb1
  have y3 : Boxed w1 (w.heap.size + 1 + 1 + 1) 87 (.slice none 0 0) := heap_below X3.out hb1
  have hw1 := HB0.out.trans (hb1.mono HB0.out.size)
  have st1 := HS.out.below hb1
  have d0 := y0.cell; have d1 := y1.cell; have d2 := y2.cell; have d3 := y3.cell
  have d9 := st1.c9; have d10 := st1.c10
  obtain ⟨es, clock, hat⟩ := st1.bat
  obtain ⟨hrun, hit⟩ := run_range (P := Tryz.prog) 104 9 158 Tryz.underlying104 hat
  have HAT := Lib.hid hat; have HIT := Lib.hid hit; have ST1 := Lib.hid st1; have HW1 := Lib.hid hw1
  have Y0 := Lib.hid y0; have Y1 := Lib.hid y1; have Y2 := Lib.hid y2; have Y3 := Lib.hid y3
  clear hb1 y0 y1 y2 y3 hw1 st1 hat hit
  dsimp only
  go_wp2_with fail
  go_loopw [8, 24] (fun v i wr => v = .slice none 0 0 ∧ i = .int .i64 0 ∧ wr = w1) (fun _ _ _ => 0)
  case atStart => exact ⟨rfl, rfl, rfl⟩
  case round =>
    obtain ⟨rfl, rfl, rfl⟩ := hrel
    go_wp2_with fail
    obtain ⟨wo, rfl⟩ : ∃ wo : World, wo = wr := ⟨_, rfl⟩
    clear hrun
    go_loopw [8] (fun v u => ∃ V R, It u wo.heap.size b es clock V R ∧ u.ownsRow (wo.heap.size + 1) 90 2 v V.length (V.flatMap entM) ∧ Below wo.heap.size wo u ∧ wo.heap.size < u.heap.size)
      (fun _ u => itM u wo.heap.size es.size)
    case atStart => exact ⟨[], es.toList, HIT.out, World.ownsRow_nil _ _ _ _, (Below.refl _ _).alloc (Nat.le_refl _) _, by simp⟩
    case round =>
      obtain ⟨V, R, hit, how, hbl, hsz⟩ := hrel
      by_cases hR : R = []
      · subst hR
        obtain ⟨A4, c4, rfl⟩ := own_form3 how
        have hnx := fun T => run_next_done (P := Tryz.prog) hit T
        have HITD := Lib.hid hit; have OWD := Lib.hid how; have HBD := Lib.hid hbl
        clear hit how hbl
        go_wp2_with fail
        have hpm : (V ++ []).Perm es.toList := HITD.out.perm
        rw [List.append_nil] at hpm
        have hfl := ents_flat HAT.out.rep V (fun e he => hpm.mem_iff.1 he)
        have hep := ents_perm HAT.out.rep hpm
        have hlen : (entsOf V).length = V.length := by unfold entsOf; simp
        have hlM := hep.length_eq
        have how2 := OWD.out
        rw [hfl, ← hlen] at how2
        have hBW := HW1.out.trans (HBD.out.mono HW1.out.size)
        have cSo := sort_row how2 hBW (Nat.le_succ_of_le HW1.out.size) (by have := HM.out; omega)
        rw [hlen] at cSo
        refine cSo.mono ?_
        rintro e w5 ⟨rfl, d', hsz, hp, hso, hrow, hbw⟩
        have HSZ := Lib.hid hsz; have HP := Lib.hid (hp.trans hep); have HSO := Lib.hid hso; have HROW := Lib.hid hrow; have HBW := Lib.hid hbw
        clear hsz hp hso hrow hbw cSo how2 hBW hfl hep hpm
        dsimp only
        go_wp2_with fail
        go_ret
        exact ⟨A4, c4, d', by rw [HSZ.out]; rfl, HP.out, HSO.out, HROW.out, HBW.out⟩
      · obtain ⟨A4, c4, rfl⟩ := own_form3 how
        obtain ⟨e, R', o, w0, hnx, hw0, hit', hpe⟩ := run_next_more (P := Tryz.prog) hit hR 0
        have hen := run_entry (P := Tryz.prog) hit'
        have hee : e ∈ es.toList := hit.mem (hpe.mem_iff.2 (List.mem_cons_self ..))
        obtain ⟨kk, vv, hmem, hk, hv⟩ := rep_mem HAT.out.rep hee
        rw [hk, hv] at hnx hen
        have hbl0 : Below wo.heap.size wo w0 := by
          rcases hw0 with rfl | rfl
          · exact hbl
          · exact hbl.drew
        have hgp := put_grown w0 wo.heap.size o
        have hb2 : Below wo.heap.size wo (put w0 wo.heap.size o) := hbl0.grown hgp hbl0.size (fun k hk => by cases hk; exact Nat.le_refl _)
        have ow0 : w0.ownsRow (wo.heap.size + 1) 90 2 (.slice A4 V.length c4) V.length (V.flatMap entM) := by
          rcases hw0 with rfl | rfl
          · exact how
          · exact how
        have owp : (put w0 wo.heap.size o).ownsRow (wo.heap.size + 1) 90 2 (.slice A4 V.length c4) V.length (V.flatMap entM) := ownsRow_heap ow0 (fun k hk => hgp.block k (ow0.lt k hk).2 (fun e => by
          have h1 := (ow0.lt k hk).1
          have h2 := Option.some.inj e
          omega))
        have hs0 : wo.heap.size < (put w0 wo.heap.size o).heap.size := by
          have h1 := hgp.size
          rcases hw0 with rfl | rfl
          · omega
          · simp at h1; omega
        have k1 : (put w0 wo.heap.size o).cell? ⟨w.heap.size + 1, 0, none⟩ = some (.string fk) := by
          have h1 : Boxed (put w0 wo.heap.size o) (w.heap.size + 1) 9 (.string fk) := heap_below Y1.out hb2
          exact h1.cell
        have k2 : (put w0 wo.heap.size o).cell? ⟨w.heap.size + 1 + 1, 0, none⟩ = some (.string tk) := by
          have h1 : Boxed (put w0 wo.heap.size o) (w.heap.size + 1 + 1) 9 (.string tk) := heap_below Y2.out hb2
          exact h1.cell
        generalize hw2 : put w0 wo.heap.size o = w2 at *
        have k3 : (w2.alloc (.cells #[.string vv, .bool false] 158)).cell? ⟨w.heap.size + 1, 0, none⟩ = some (.string fk) := by
          rw [← k1]; exact World.cell?_of_block (Below.heap_alloc _ _ _ (lt_of_cell k1))
        have k4 : (w2.alloc (.cells #[.string vv, .bool false] 158)).cell? ⟨w.heap.size + 1 + 1, 0, none⟩ = some (.string tk) := by
          rw [← k2]; exact World.cell?_of_block (Below.heap_alloc _ _ _ (lt_of_cell k2))
        have g1 := (HIN.out _ hmem).1
        have g3 := (HIN.out _ hmem).2
        simp only at g1 g3
        have hVl : V.length ≤ 1000 := by
          have h1 := hit.perm.length_eq
          have h2 : es.toList.length = M.length := by
            have h3 := congrArg List.length HAT.out.rep
            simpa [wantL] using h3
          have := HM.out
          rw [List.length_append] at h1; omega
        have ow3 : ((w2.alloc (.cells #[.string vv, .bool false] 158)).alloc (.cells #[.string kk, .string vv] 90)).ownsRow (wo.heap.size + 1) 90 2 (.slice A4 V.length c4) V.length (V.flatMap entM) := ownsRow_below (ownsRow_below owp ((Below.refl _ _).alloc (Nat.le_refl _) _)) ((Below.refl _ _).alloc (Nat.le_refl _) _)
        have hn3 : ((w2.alloc (.cells #[.string vv, .bool false] 158)).alloc (.cells #[.string kk, .string vv] 90)).heap[w2.heap.size + 1]? = some (.cells #[.string kk, .string vv] 90 (0, 0)) := two_b' _ _ _
        have hsrc := src_row (T := 87) Tryz.underlying87 hn3 (by kernel_rfl)
        obtain ⟨ip, hip1, hip2, hip3, hip4⟩ := info_entry'
        have hbs : wo.heap.size + 1 ≤ ((w2.alloc (.cells #[.string vv, .bool false] 158)).alloc (.cells #[.string kk, .string vv] 90)).heap.size := by
          simp only [World.size_alloc]; omega
        have HITU := Lib.hid hit
        have HIT2 := Lib.hid hit'; have OW3 := Lib.hid ow3; have HSRC := Lib.hid hsrc; have HBS := Lib.hid hbs
        have HB2 := Lib.hid hb2; have HS0 := Lib.hid hs0
        clear hit how hit' hw2 ow0 owp hs0 hgp hbl0 ow3 hn3 hsrc hbs hb2
        go_wp2_with (at_builtin; refine wpList_append_src _ rfl (.tmp 72) (.tmp 77) 87 87 rfl (wo.heap.size + 1) 90 ip (.agg #[.string ⟨#[]⟩, .string ⟨#[]⟩]) 2 32 Tryz.underlying87 hip1 hip2 hip3 hip4 rfl _ _ V.length (V.flatMap entM) rfl rfl OW3.out 1 _ HSRC.out ?_ ?_ HBS.out ?_)
        · unfold maxLen; omega
        · omega
        intro v3 w3 ow4 hg3
        have hlo : ∀ z, z ≤ wo.heap.size → w3.heap[z]? = w2.heap[z]? := fun z hz => by
          have hz2 : z < w2.heap.size := Nat.lt_of_le_of_lt hz HS0.out
          refine (hg3.block z (by simp only [World.size_alloc]; omega) (fun e => ?_)).trans ((Below.heap_alloc _ _ _ (by simp only [World.size_alloc]; omega)).trans (Below.heap_alloc _ _ _ hz2))
          have h1 := (OW3.out.lt z e.symm).1
          omega
        have hit3 := It.keep HIT2.out (hlo b (Nat.le_of_lt (lt_of_heap HAT.out.block))) (hlo wo.heap.size (Nat.le_refl _))
        have hb3 : Below wo.heap.size wo w3 := ((HB2.out.alloc HB2.out.size _).alloc (by simp only [World.size_alloc]; have := HB2.out.size; omega) _).grown hg3 (by simp only [World.size_alloc]; have := HB2.out.size; omega) (fun k hk => Nat.le_of_succ_le (OW3.out.lt k hk).1)
        have hs3 : wo.heap.size < w3.heap.size := by have h1 := hg3.size; simp only [World.size_alloc] at h1; have := HS0.out; omega
        have hem : entM e = [.string kk, .string vv] := by unfold entM; rw [hk, hv]; rfl
        have ow5 : w3.ownsRow (wo.heap.size + 1) 90 2 v3 (V ++ [e]).length ((V ++ [e]).flatMap entM) := by
          rw [List.length_append, List.flatMap_append]; simp only [List.flatMap_cons, List.flatMap_nil, hem]; exact ow4
        have HIT3 := Lib.hid hit3; have HB3 := Lib.hid hb3; have HS3 := Lib.hid hs3; have OW5 := Lib.hid ow5
        clear hit3 hb3 hs3 ow5 ow4 hg3 hlo
        go_wp2
        go_roundw
        case rel => first | exact ⟨V ++ [e], R', HIT3.out, OW5.out, HB3.out, HS3.out⟩ | ((repeat apply Exists.intro); exact ⟨⟨V ++ [e], R', HIT3.out, OW5.out, HB3.out, HS3.out⟩, rfl⟩)
        case measure => have h1 := It.meas HIT3.out es.size; have h2 := It.meas HITU.out es.size; have h3 := It.len HIT3.out; rw [List.length_append] at h1 h3; simp only [List.length_cons, List.length_nil] at h1 h3; rw [h1, h2]; omega
end Go.Proofs.YtmbfenkmabdokaaGreatDoor

namespace Go.Proofs.YtmbfenkmabdokaaGreatDoor
open Go.RowKit Go.Mp

def beginB : Bytes := [2, 115, 101, 115, 115, 105, 111, 110, 0, 0]
def afterB : Bytes := [2, 115, 101, 115, 115, 105, 111, 110, 0, 1]
theorem begin_is : beginB = keyT [sessW] := rfl

/-- a string as a row of bytes of its own -/
theorem conv_row (W : World) (s : ByteArray) : ∃ c W' row fr, (convert 9 26 (.string s)).run Tryz.prog W = .ok (.slice (some ⟨W.heap.size, 0, none⟩) s.size c) W' ∧ s.size ≤ c ∧
    W'.heap[W.heap.size]? = some (.cells row 5 fr) ∧ s.size ≤ row.size ∧ s.size ≤ fr.1 ∧ (∀ i, (h : i < s.data.size) → row[i]? = some (.int .u8 (s.data[i].toNat : Int))) ∧ Below W.heap.size W W' := by
  refine ⟨_, _, _, _, run_bytes_of_string W 9 26 5 s Tryz.underlying9 Tryz.underlying26 Tryz.underlying5, grownCap_ge _ _ _ _, heap_alloc_new W.drew _, ?_, ?_, fun i h => bytesRow_at s _ i h, (Below.refl _ _).drew.alloc (Nat.le_refl _) _⟩
  · simp [bytesRow]
  · simp [bytesRow]

set_option maxRecDepth 100000 in
set_option maxHeartbeats 1000000 in
theorem After_ok (w : World) : Calls Tryz.prog 56 #[.string (bs beginB)] w fun e w' => e = .returned (.string (bs afterB)) ∧ Below w.heap.size w w' := by
  obtain ⟨c, W', row, fr, hcv, hc, hrow, hsz, hfr, hget, hbw⟩ := conv_row w (bs beginB)
  have hs : (bs beginB).size = 10 := rfl
  rw [hs] at hcv hsz hfr hc
  have g : ∀ i, (h : i < 10) → row[i]? = some (.int .u8 ((beginB[i]'h).toNat : Int)) := fun i h => hget i h
  have r9 : W'.cell? ⟨w.heap.size, 9, none⟩ = some (.int .u8 0) := by rw [World.cell?]; simp only [hrow]; exact g 9 (by omega)
  have f9 : W'.frozen? ⟨w.heap.size, 9, none⟩ = false := by
    obtain ⟨lo, hi⟩ := fr
    rw [World.frozen?]; simp only [hrow]
    have : ¬ lo ≤ 9 := by simp only at hfr; omega
    simp [this]
  have hrow2 := setCell_row hrow 9 (.int .u8 1)
  have g2 : ∀ i, (h : i < afterB.length) → (row.setIfInBounds 9 (.int .u8 1))[i]? = some (.int .u8 ((afterB[i]'h).toNat : Int)) := by
    intro i h
    have h10 : i < 10 := h
    by_cases e : i = 9
    · subst e
      rw [Array.getElem?_setIfInBounds_self_of_lt (by omega)]; rfl
    · rw [Array.getElem?_setIfInBounds_ne (Ne.symm e), g i h10]
      rcases i with _ | _ | _ | _ | _ | _ | _ | _ | _ | _ | i
      · rfl
      · rfl
      · rfl
      · rfl
      · rfl
      · rfl
      · rfl
      · rfl
      · rfl
      · exact absurd rfl e
      · omega
  have hback : (convert 26 9 (.slice (some ⟨w.heap.size, 0, none⟩) 10 c)).run Tryz.prog (W'.setCell ⟨w.heap.size, 9, none⟩ (.int .u8 1)) = .ok (.string (bs afterB)) (W'.setCell ⟨w.heap.size, 9, none⟩ (.int .u8 1)) :=
    run_convert_bytes_back _ 26 9 5 ⟨w.heap.size, 0, none⟩ c afterB Tryz.underlying26 Tryz.underlying5 Tryz.underlying9 (fun j hj => by
      rw [Addr.add_lit, Nat.zero_add, World.cell?]; simp only [hrow2]; exact g2 j hj)
  have hfin : Below w.heap.size w (W'.setCell ⟨w.heap.size, 9, none⟩ (.int .u8 1)) := by
    rw [setCell_eq_setRow _ _ _ _ _ _ _ hrow]; exact below_setRow hbw (Nat.le_refl _) _
  have HFIN := Lib.hid hfin
  clear hfin hrow2 g2 g hget hsz hfr hrow hbw hs
  generalize bs beginB = bb at *
  go_enter Tryz.func56, Tryz.ntmps56
  go_wp2_with fail
  go_loopw [3] (fun v wr => v = .slice (some ⟨w.heap.size, 0, none⟩) 10 c ∧ wr = W') (fun _ _ => 0)
  case atStart => exact ⟨rfl, rfl⟩
  case round =>
    obtain ⟨rfl, rfl⟩ := hrel
    go_wp2_with fail
    go_ret
    exact ⟨rfl, HFIN.out⟩
end Go.Proofs.YtmbfenkmabdokaaGreatDoor

namespace Go.Proofs.YtmbfenkmabdokaaGreatDoor
open Go.RowKit Go.Mp

/-- the first code that is not zero -/
def firstN (code : Nat → Int) : Nat → Int
  | 0 => 0
  | n + 1 => if firstN code n = 0 then code n else firstN code n
theorem firstN_zero {code : Nat → Int} {n : Nat} (h : ∀ j, j < n → code j = 0) : firstN code n = 0 := by
  induction n with
  | zero => rfl
  | succ n ih => rw [firstN, ih (fun j hj => h j (by omega)), if_pos rfl]; exact h n (by omega)
theorem firstN_hit {code : Nat → Int} {n i : Nat} (hi : i < n) (h : ∀ j, j < i → code j = 0) (hc : code i ≠ 0) : firstN code n = code i := by
  induction n with
  | zero => omega
  | succ n ih =>
    rw [firstN]
    by_cases hin : i = n
    · subst hin; rw [firstN_zero h, if_pos rfl]
    · rw [ih (by omega), if_neg hc]

set_option maxRecDepth 100000 in
set_option maxHeartbeats 1000000 in
theorem first_ok (w : World) (g n : Nat) (fid : Nat → Nat) (caps : Nat → Array Value) (code : Nat → Int) (I : Nat → World → Prop) (J : World → Prop) (hn : n ≤ 20) (ni : Int) (hni : ni = n)
    (hrow : ∀ i W, i < n → I i W → W.cell? ⟨g, i, none⟩ = some (.func (.func (fid i)) #[] (caps i)))
    (eg : ∀ i args W, i < n → (callFunc (fid i) args).run Tryz.prog W = .ok (.enter (fid i) args) W)
    (hc : ∀ i W, i < n → (∀ j, j < i → code j = 0) → I i W → Calls Tryz.prog (fid i) (caps i) W fun e w' => e = .returned (.int .i64 (code i)) ∧ (code i = 0 → I (i + 1) w') ∧ (code i ≠ 0 → J w'))
    (h0 : I 0 w) (hJ : ∀ W, (∀ j, j < n → code j = 0) → I n W → J W) :
    Calls Tryz.prog 39 #[.slice (some ⟨g, 0, none⟩) n n] w fun e w' => e = .returned (.int .i64 (firstN code n)) ∧ J w' := by
  have HR := Lib.hid hrow; have HC := Lib.hid hc; have HJ := Lib.hid hJ; have H0 := Lib.hid h0; have EG := Lib.hid eg
  clear hrow hc hJ h0 eg
  go_enter Tryz.func39, Tryz.ntmps39
  go_wp2
  go_loopw [8] (fun i wr => ∃ k : Nat, k ≤ n ∧ i = .int .i64 k ∧ RowKit.Hid (∀ j, j < k → code j = 0) ∧ RowKit.Hid (I k wr)) (fun i _ => n - (intOf i).toNat)
  case atStart => exact ⟨0, by omega, rfl, Lib.hid (fun j hj => by omega), H0⟩
  case round =>
    obtain ⟨k, hk, rfl, hz, hI⟩ := hrel
    by_cases hlt : k < n
    · have r0 := HR.out k wr hlt hI.out
      have cc := Lib.hid (HC.out k wr hlt hz.out hI.out)
      have eg := fun args W => EG.out k args W hlt
      have hk20 : k < 20 := by omega
      go_wp2_with fail
      refine cc.out.mono ?_
      rintro e w2 ⟨rfl, h1, h2⟩
      have H1 := Lib.hid h1; have H2 := Lib.hid h2; have HZ := Lib.hid hz.out
      clear h1 h2 r0 cc eg
      obtain ⟨cv, hcv⟩ : ∃ cv, cv = code k := ⟨_, rfl⟩
      rw [← hcv]
      dsimp only
      by_cases hcz : cv = 0
      · subst hcz
        have hcv2 := Lib.hid hcv
        clear hcv
        go_wp2
        go_roundw
        case rel => exact ⟨k + 1, by omega, by go_num, Lib.hid (fun j hj => by
          by_cases hjk : j = k
          · rw [hjk]; exact hcv2.out.symm
          · exact HZ.out j (by omega)), Lib.hid (H1.out hcv2.out.symm)⟩
        case measure => simp [intOf]; omega
      · have hcv2 := Lib.hid hcv
        clear hcv
        go_wp2
        go_ret
        exact ⟨by rw [firstN_hit hlt HZ.out (by rw [← hcv2.out]; exact hcz), hcv2.out]; rfl, H2.out (by rw [← hcv2.out]; exact hcz)⟩
    · obtain rfl : k = n := by omega
      have hz0 := firstN_zero hz.out
      go_wp2
      go_ret
      exact ⟨by rw [hz0]; rfl, HJ.out _ hz.out hI.out⟩
end Go.Proofs.YtmbfenkmabdokaaGreatDoor

namespace Go.Proofs.YtmbfenkmabdokaaGreatDoor
open Go.RowKit Go.Mp

set_option maxRecDepth 100000 in
set_option maxHeartbeats 2000000 in
theorem live_none (w : World) (s t p b : Nat) (M : KV) (tk : Bytes) (now : Int) (h : St w s t p b M) (ht : isTok tk = true) (hg : getM M (bs (placeB tk)) = none) :
    Calls Tryz.prog 48 #[.pointer (some ⟨s, 0, none⟩), .string (bs tk), .int .i64 now] w fun e w' => e = .returned (.tuple #[.agg zeroS, .int .i64 190]) ∧ Below w.heap.size w w' := by
  have hwz := heap_alloc_new w (.cells zeroS 36)
  have hb0 : Below w.heap.size w (w.alloc (.cells zeroS 36)) := (Below.refl _ _).alloc (Nat.le_refl _) _
  have hsz : w.heap.size < (w.alloc (.cells zeroS 36)).heap.size := by simp
  have cL := Lib.hid (load_none (w.alloc (.cells zeroS 36)) s t p b M tk (h.below hb0) ht hg)
  have HWZ := Lib.hid hwz; have HB0 := Lib.hid hb0; have HS := Lib.hid h; have HSZ := Lib.hid hsz
  clear h hg hwz hb0 hsz
  go_enter Tryz.func48, Tryz.ntmps48
  go_wp2_with fail
  refine cL.out.mono ?_
  rintro e w1 ⟨rfl, hb1⟩
  have hi : (Tryz.prog.info? 36).map (·.size) = some (zeroS).size := by kernel_rfl
  have hall : (zeroS).all (·.oneCell') = true := by kernel_rfl
  have hir : (Tryz.prog.info? 36).map (·.size) = some (zeroS).size := by kernel_rfl
  have hallr : (zeroS).all (·.oneCell') = true := by kernel_rfl
  have hw1 := HB0.out.trans (hb1.mono HB0.out.size)
  have hz1 : w1.heap[w.heap.size]? = some (.cells zeroS 36 (0, 0)) := by rw [hb1.block _ HSZ.out]; exact HWZ.out
  have hn2 := heap_alloc_new w1 (.cells zeroS 36)
  have hw3 : Below w.heap.size w ((w1.alloc (.cells zeroS 36)).setRow w1.heap.size (zeroS)) := below_setRow (hw1.alloc hw1.size _) hw1.size _
  have hz3 : ((w1.alloc (.cells zeroS 36)).setRow w1.heap.size (zeroS)).heap[w.heap.size]? = some (.cells zeroS 36 (0, 0)) := (setRow_other _ _ _ _ (Nat.ne_of_lt (lt_of_heap hz1))).trans ((Below.heap_alloc _ _ _ (lt_of_heap hz1)).trans hz1)
  have hn3 := setRow_heap _ _ _ (zeroS) _ _ hn2
  have hfin := setRow_heap _ w.heap.size _ (zeroS) _ _ hz3
  have hfk := below_setRow hw3 (Nat.le_refl _) (zeroS)
  skip
  have HN2 := Lib.hid hn2; have HZ3 := Lib.hid hz3; have HN3 := Lib.hid hn3; have HFIN := Lib.hid hfin; have HFK := Lib.hid hfk
  clear hb1 hw1 hz1 hn2 hw3 hz3 hn3 hfin hfk
  dsimp only
  go_wp2_with first | (refine wpList_store_row rfl 36 _ _ rfl w1.heap.size (zeroS) rfl rfl 36 _ HN2.out hi rfl hall ?_) | (refine wpList_store_row rfl 36 _ _ rfl w.heap.size (zeroS) rfl rfl 36 _ HZ3.out hir rfl hallr ?_) | fail
  exact bodyPost_ret (v := .tuple #[.agg (zeroS), .int .i64 190]) (results_cell_slot (p := 6) (q := 7) (ty := 36) rfl _ _ w.heap.size _ rfl _ rfl (run_loadVar_row _ w.heap.size 36 36 _ (0, 0) _ HFIN.out Tryz.underlying36 rfl hir)) rfl ⟨rfl, HFK.out⟩

set_option maxRecDepth 100000 in
set_option maxHeartbeats 2000000 in
theorem live_late (w : World) (s t p b : Nat) (M : KV) (tk : Bytes) (now : Int) (x : Sess) (h : St w s t p b M) (ht : isTok tk = true) (hg : getM M (bs (placeB tk)) = some (bs x.enc)) (hx : x.Ok) (hn : (x.ends : Int) ≤ now) :
    Calls Tryz.prog 48 #[.pointer (some ⟨s, 0, none⟩), .string (bs tk), .int .i64 now] w fun e w' => e = .returned (.tuple #[.agg zeroS, .int .i64 191]) ∧ Below w.heap.size w w' := by
  have hwz := heap_alloc_new w (.cells zeroS 36)
  have hb0 : Below w.heap.size w (w.alloc (.cells zeroS 36)) := (Below.refl _ _).alloc (Nat.le_refl _) _
  have hsz : w.heap.size < (w.alloc (.cells zeroS 36)).heap.size := by simp
  have cL := Lib.hid (load_some (w.alloc (.cells zeroS 36)) s t p b M tk x (h.below hb0) ht hg hx)
  have HWZ := Lib.hid hwz; have HB0 := Lib.hid hb0; have HS := Lib.hid h; have HSZ := Lib.hid hsz
  clear h hg hwz hb0 hsz
  go_enter Tryz.func48, Tryz.ntmps48
  go_wp2_with fail
  refine cL.out.mono ?_
  rintro e w1 ⟨rfl, hb1⟩
  have hi : (Tryz.prog.info? 36).map (·.size) = some ((sessC (bs tk) x)).size := by kernel_rfl
  have hall : ((sessC (bs tk) x)).all (·.oneCell') = true := by kernel_rfl
  have hir : (Tryz.prog.info? 36).map (·.size) = some (zeroS).size := by kernel_rfl
  have hallr : (zeroS).all (·.oneCell') = true := by kernel_rfl
  have hw1 := HB0.out.trans (hb1.mono HB0.out.size)
  have hz1 : w1.heap[w.heap.size]? = some (.cells zeroS 36 (0, 0)) := by rw [hb1.block _ HSZ.out]; exact HWZ.out
  have hn2 := heap_alloc_new w1 (.cells zeroS 36)
  have hw3 : Below w.heap.size w ((w1.alloc (.cells zeroS 36)).setRow w1.heap.size ((sessC (bs tk) x))) := below_setRow (hw1.alloc hw1.size _) hw1.size _
  have hz3 : ((w1.alloc (.cells zeroS 36)).setRow w1.heap.size ((sessC (bs tk) x))).heap[w.heap.size]? = some (.cells zeroS 36 (0, 0)) := (setRow_other _ _ _ _ (Nat.ne_of_lt (lt_of_heap hz1))).trans ((Below.heap_alloc _ _ _ (lt_of_heap hz1)).trans hz1)
  have hn3 := setRow_heap _ _ _ ((sessC (bs tk) x)) _ _ hn2
  have hfin := setRow_heap _ w.heap.size _ (zeroS) _ _ hz3
  have hfk := below_setRow hw3 (Nat.le_refl _) (zeroS)
  have c3 : ((w1.alloc (.cells #[.string ⟨#[]⟩, .string ⟨#[]⟩, .int .i64 0, .int .i64 0, .int .i64 0, .int .i64 0, .int .i64 0, .int .i64 0] 36)).setRow w1.heap.size (sessC (bs tk) x)).cell? ⟨w1.heap.size, 3, none⟩ = some (.int .i64 (x.ends : Int)) := (cell_setRow_same _ _ _ _ _ _ _ hn2).trans rfl
  have HN2 := Lib.hid hn2; have HZ3 := Lib.hid hz3; have HN3 := Lib.hid hn3; have HFIN := Lib.hid hfin; have HFK := Lib.hid hfk
  clear hb1 hw1 hz1 hn2 hw3 hz3 hn3 hfin hfk
  dsimp only
  go_wp2_with first | (refine wpList_store_row rfl 36 _ _ rfl w1.heap.size ((sessC (bs tk) x)) rfl rfl 36 _ HN2.out hi rfl hall ?_) | (refine wpList_store_row rfl 36 _ _ rfl w.heap.size (zeroS) rfl rfl 36 _ HZ3.out hir rfl hallr ?_) | fail
  exact bodyPost_ret (v := .tuple #[.agg (zeroS), .int .i64 191]) (results_cell_slot (p := 6) (q := 7) (ty := 36) rfl _ _ w.heap.size _ rfl _ rfl (run_loadVar_row _ w.heap.size 36 36 _ (0, 0) _ HFIN.out Tryz.underlying36 rfl hir)) rfl ⟨rfl, HFK.out⟩

set_option maxRecDepth 100000 in
set_option maxHeartbeats 2000000 in
theorem live_some (w : World) (s t p b : Nat) (M : KV) (tk : Bytes) (now : Int) (x : Sess) (h : St w s t p b M) (ht : isTok tk = true) (hg : getM M (bs (placeB tk)) = some (bs x.enc)) (hx : x.Ok) (hn : now < (x.ends : Int)) :
    Calls Tryz.prog 48 #[.pointer (some ⟨s, 0, none⟩), .string (bs tk), .int .i64 now] w fun e w' => e = .returned (.tuple #[.agg (sessC (bs tk) x), .int .i64 0]) ∧ Below w.heap.size w w' := by
  have hwz := heap_alloc_new w (.cells zeroS 36)
  have hb0 : Below w.heap.size w (w.alloc (.cells zeroS 36)) := (Below.refl _ _).alloc (Nat.le_refl _) _
  have hsz : w.heap.size < (w.alloc (.cells zeroS 36)).heap.size := by simp
  have cL := Lib.hid (load_some (w.alloc (.cells zeroS 36)) s t p b M tk x (h.below hb0) ht hg hx)
  have HWZ := Lib.hid hwz; have HB0 := Lib.hid hb0; have HS := Lib.hid h; have HSZ := Lib.hid hsz
  clear h hg hwz hb0 hsz
  go_enter Tryz.func48, Tryz.ntmps48
  go_wp2_with fail
  refine cL.out.mono ?_
  rintro e w1 ⟨rfl, hb1⟩
  have hi : (Tryz.prog.info? 36).map (·.size) = some ((sessC (bs tk) x)).size := by kernel_rfl
  have hall : ((sessC (bs tk) x)).all (·.oneCell') = true := by kernel_rfl
  have hir : (Tryz.prog.info? 36).map (·.size) = some ((sessC (bs tk) x)).size := by kernel_rfl
  have hallr : ((sessC (bs tk) x)).all (·.oneCell') = true := by kernel_rfl
  have hw1 := HB0.out.trans (hb1.mono HB0.out.size)
  have hz1 : w1.heap[w.heap.size]? = some (.cells zeroS 36 (0, 0)) := by rw [hb1.block _ HSZ.out]; exact HWZ.out
  have hn2 := heap_alloc_new w1 (.cells zeroS 36)
  have hw3 : Below w.heap.size w ((w1.alloc (.cells zeroS 36)).setRow w1.heap.size ((sessC (bs tk) x))) := below_setRow (hw1.alloc hw1.size _) hw1.size _
  have hz3 : ((w1.alloc (.cells zeroS 36)).setRow w1.heap.size ((sessC (bs tk) x))).heap[w.heap.size]? = some (.cells zeroS 36 (0, 0)) := (setRow_other _ _ _ _ (Nat.ne_of_lt (lt_of_heap hz1))).trans ((Below.heap_alloc _ _ _ (lt_of_heap hz1)).trans hz1)
  have hn3 := setRow_heap _ _ _ ((sessC (bs tk) x)) _ _ hn2
  have hfin := setRow_heap _ w.heap.size _ ((sessC (bs tk) x)) _ _ hz3
  have hfk := below_setRow hw3 (Nat.le_refl _) ((sessC (bs tk) x))
  have c3 : ((w1.alloc (.cells #[.string ⟨#[]⟩, .string ⟨#[]⟩, .int .i64 0, .int .i64 0, .int .i64 0, .int .i64 0, .int .i64 0, .int .i64 0] 36)).setRow w1.heap.size (sessC (bs tk) x)).cell? ⟨w1.heap.size, 3, none⟩ = some (.int .i64 (x.ends : Int)) := (cell_setRow_same _ _ _ _ _ _ _ hn2).trans rfl
  have HN2 := Lib.hid hn2; have HZ3 := Lib.hid hz3; have HN3 := Lib.hid hn3; have HFIN := Lib.hid hfin; have HFK := Lib.hid hfk
  clear hb1 hw1 hz1 hn2 hw3 hz3 hn3 hfin hfk
  dsimp only
  go_wp2_with first | (refine wpList_store_row rfl 36 _ _ rfl w1.heap.size ((sessC (bs tk) x)) rfl rfl 36 _ HN2.out hi rfl hall ?_) | (refine wpList_load_row rfl 36 _ rfl w1.heap.size rfl _ (sessC (bs tk) x) _ _ HN3.out Tryz.underlying36 rfl hi ?_) | (refine wpList_store_row rfl 36 _ _ rfl w.heap.size ((sessC (bs tk) x)) rfl rfl 36 _ HZ3.out hir rfl hallr ?_) | fail
  exact bodyPost_ret (v := .tuple #[.agg ((sessC (bs tk) x)), .int .i64 0]) (results_cell_slot (p := 6) (q := 7) (ty := 36) rfl _ _ w.heap.size _ rfl _ rfl (run_loadVar_row _ w.heap.size 36 36 _ (0, 0) _ HFIN.out Tryz.underlying36 rfl hir)) rfl ⟨rfl, HFK.out⟩
end Go.Proofs.YtmbfenkmabdokaaGreatDoor

namespace Go.Proofs.YtmbfenkmabdokaaGreatDoor
open Go.RowKit Go.Mp

theorem enters_when1 : ∀ args (W : World), (callFunc 92 args).run Tryz.prog W = .ok (.enter 92 args) W := by
  exact enters_of Tryz.func92 (by kernel_rfl) rfl

/-- when's closure, called where it was made -/
theorem when_call (w : World) (c : Bool) (n : Int) :
    Calls Tryz.prog 92 #[.pointer (some ⟨w.heap.size, 0, none⟩), .pointer (some ⟨w.heap.size + 1, 0, none⟩)] ((w.alloc (.cells #[.bool c] 4)).alloc (.cells #[.int .i64 n] 23)) fun e w' =>
      e = .returned (.int .i64 (if c then 0 else n)) ∧ Below w.heap.size w w' := by
  have b0 : ((w.alloc (.cells #[.bool c] 4)).alloc (.cells #[.int .i64 n] 23)).heap[w.heap.size]? = some (.cells #[.bool c] 4 (0, 0)) := by
    simp only [heap_alloc_push, Array.getElem?_push, Array.size_push]; repeat (first | rw [if_pos trivial] | rw [if_neg (by omega)] | rw [if_pos (by omega)])
  have b1 : ((w.alloc (.cells #[.bool c] 4)).alloc (.cells #[.int .i64 n] 23)).heap[w.heap.size + 1]? = some (.cells #[.int .i64 n] 23 (0, 0)) := by
    simp only [heap_alloc_push, Array.getElem?_push, Array.size_push]; repeat (first | rw [if_pos trivial] | rw [if_neg (by omega)] | rw [if_pos (by omega)])
  refine (when1_ok _ w.heap.size (w.heap.size + 1) c n (by rw [World.cell?]; simp only [b0]; rfl) (by rw [World.cell?]; simp only [b1]; rfl)).mono ?_
  rintro e w' ⟨he, rfl⟩
  exact ⟨he, ((Below.refl _ _).alloc (Nat.le_refl _) _).alloc (by simp) _⟩

set_option maxRecDepth 100000 in
set_option maxHeartbeats 1000000 in
theorem Spend1_ok (w : World) (cb xb : Nat) (cost : Int) (t : ByteArray) (x : Sess) (hx : x.Ok) (hc : w.cell? ⟨cb, 0, none⟩ = some (.int .i64 cost)) (hb : w.heap[xb]? = some (.cells (sessC t x) 36 (0, 0))) :
    Calls Tryz.prog 49 #[.pointer (some ⟨cb, 0, none⟩), .pointer (some ⟨xb, 0, none⟩)] w fun e w' =>
      e = .returned (.int .i64 (if decide (cost ≤ (x.quota : Int) - (x.used : Int)) then 0 else 193)) ∧ Below w.heap.size w w' := by
  have c4 : w.cell? ⟨xb, 4, none⟩ = some (.int .i64 (x.quota : Int)) := by rw [World.cell?]; simp only [hb]; rfl
  have c5 : w.cell? ⟨xb, 5, none⟩ = some (.int .i64 (x.used : Int)) := by rw [World.cell?]; simp only [hb]; rfl
  have hq : x.quota < 9223372036854775808 := hx.1 _ (by simp [Sess.nums])
  have hu : x.used < 9223372036854775808 := hx.1 _ (by simp [Sess.nums])
  have cw := Lib.hid (when_ok w (decide (cost ≤ (x.quota : Int) - (x.used : Int))) 193)
  have cw1 := Lib.hid (when_call w (decide (cost ≤ (x.quota : Int) - (x.used : Int))) 193)
  have eg := enters_when1
  generalize (if decide (cost ≤ (x.quota : Int) - (x.used : Int)) = true then (0 : Int) else 193) = cv at *
  clear hb hx
  go_enter Tryz.func49, Tryz.ntmps49
  go_wp2_with fail
  refine cw.out.mono ?_
  rintro e w1 ⟨rfl, rfl⟩
  dsimp only
  go_wp2_with fail
  refine cw1.out.mono ?_
  rintro e w2 ⟨rfl, hb2⟩
  have HB2 := Lib.hid hb2
  clear hb2
  dsimp only
  go_wp2_with fail
  go_ret
  exact ⟨rfl, HB2.out⟩

set_option maxRecDepth 100000 in
set_option maxHeartbeats 1000000 in
theorem Spend2_ok (w : World) (xb nb now : Nat) (t : ByteArray) (x : Sess) (hn : w.cell? ⟨nb, 0, none⟩ = some (.int .i64 (now : Int))) (hb : w.heap[xb]? = some (.cells (sessC t x) 36 (0, 0)))
    (hnow : now ≤ 1125899906842624) (ha : x.at_ ≤ 1125899906842624) (hl : x.left ≤ 1125899906842624) :
    Calls Tryz.prog 50 #[.pointer (some ⟨xb, 0, none⟩), .pointer (some ⟨nb, 0, none⟩)] w fun e w' =>
      e = .returned (.int .i64 (if decide (0 < (x.refill now).left) then 0 else 194)) ∧ w'.heap[xb]? = some (.cells (sessC t (x.refill now)) 36 (0, 0)) ∧ Kp (· = xb) w w' := by
  have cR := Lib.hid (refill_ok w xb now t x hb hnow ha hl)
  have eg := enters_when1
  clear hb
  generalize x.refill now = y at *
  obtain ⟨cv, hcv⟩ : ∃ cv : Int, cv = if decide (0 < y.left) = true then (0 : Int) else 194 := ⟨_, rfl⟩
  rw [← hcv]
  have HCV := Lib.hid hcv
  clear hcv
  go_enter Tryz.func50, Tryz.ntmps50
  go_wp2_with fail
  refine cR.out.mono ?_
  rintro e w1 ⟨rfl, hb1, hk1⟩
  have c6 : w1.cell? ⟨xb, 6, none⟩ = some (.int .i64 (y.left : Int)) := by rw [World.cell?]; simp only [hb1]; rfl
  have cw := Lib.hid (when_ok w1 (decide (0 < y.left)) 194)
  have cw1' := when_call w1 (decide (0 < y.left)) 194
  rw [← HCV.out] at cw1'
  have cw1 := Lib.hid cw1'
  clear cw1'
  have HB1 := Lib.hid hb1; have HK1 := Lib.hid hk1
  clear hb1 hk1 hn
  dsimp only
  go_wp2_with fail
  refine cw.out.mono ?_
  rintro e w2 ⟨rfl, rfl⟩
  dsimp only
  go_wp2_with fail
  refine cw1.out.mono ?_
  rintro e w3 ⟨rfl, hb3⟩
  have HB3 := Lib.hid hb3
  clear hb3
  dsimp only
  go_wp2_with fail
  go_ret
  exact ⟨rfl, heap_below HB1.out HB3.out, HK1.out.trans (Kp.of_below HB3.out _)⟩
end Go.Proofs.YtmbfenkmabdokaaGreatDoor

namespace Go.Proofs.YtmbfenkmabdokaaGreatDoor
open Go.RowKit Go.Mp

/-- what a session that was issued keeps to -/
structure Sess.Fine (x : Sess) : Prop where
  role : x.role ≤ 3
  ends : x.ends ≤ 1125899906842624
  quota : x.quota ≤ 1099511627776
  used : x.used ≤ x.quota
  left : x.left ≤ 20
  at_ : x.at_ ≤ 1125899906842624
  author : x.author.size ≤ 40
theorem Sess.Fine.ok {x : Sess} (h : x.Fine) : x.Ok := by
  have := h.role; have := h.ends; have := h.quota; have := h.used; have := h.left; have := h.at_; have := h.author
  refine ⟨?_, by omega⟩
  intro n hn
  simp [Sess.nums] at hn
  omega
def Sess.spend (x : Sess) (now cost : Nat) : Sess := { x.refill now with used := x.used + cost, left := (x.refill now).left - 1 }
def codeW (now cost : Int) : Bool := decide (0 ≤ cost ∧ cost ≤ 1099511627776) && decide (0 ≤ now ∧ now ≤ 1125899906842624)
def codeR (x : Sess) (role : Int) : Bool := decide (1 ≤ role) && decide (role ≤ (x.role : Int))
def spendN (x : Sess) (now cost role : Int) : Nat → Int
  | 0 => if codeW now cost then 0 else 1
  | 1 => if codeR x role then 0 else 192
  | 2 => if decide (cost ≤ (x.quota : Int) - (x.used : Int)) then 0 else 193
  | _ => if decide (0 < (x.refill now.toNat).left) then 0 else 194
def spendC (x : Sess) (now cost role : Int) : Int := firstN (spendN x now cost role) 4

theorem enters_Spend1 : ∀ args (W : World), (callFunc 49 args).run Tryz.prog W = .ok (.enter 49 args) W := by
  exact enters_of Tryz.func49 (by kernel_rfl) rfl
theorem enters_Spend2 : ∀ args (W : World), (callFunc 50 args).run Tryz.prog W = .ok (.enter 50 args) W := by
  exact enters_of Tryz.func50 (by kernel_rfl) rfl

def spendF : Nat → Nat
  | 0 => 92
  | 1 => 92
  | 2 => 49
  | _ => 50
def pt (b : Nat) : Value := .pointer (some ⟨b, 0, none⟩)
def spendK (nb cb xb a0 b0 a1 b1 : Nat) : Nat → Array Value
  | 0 => #[pt a0, pt b0]
  | 1 => #[pt a1, pt b1]
  | 2 => #[pt cb, pt xb]
  | _ => #[pt xb, pt nb]

theorem two_a (w : World) (x y : Obj) : ((w.alloc x).alloc y).heap[w.heap.size]? = some x :=
  (Below.heap_alloc _ _ _ (by simp)).trans (heap_alloc_new w x)
theorem two_b (w : World) (x y : Obj) : ((w.alloc x).alloc y).heap[w.heap.size + 1]? = some y := by
  have := heap_alloc_new (w.alloc x) y
  rw [World.size_alloc] at this; exact this
theorem firstN_all {code : Nat → Int} {n : Nat} (h : firstN code n = 0) : ∀ j, j < n → code j = 0 := by
  induction n with
  | zero => intro j hj; omega
  | succ n ih =>
    rw [firstN] at h
    by_cases h0 : firstN code n = 0
    · rw [if_pos h0] at h
      intro j hj
      by_cases e : j = n
      · rw [e]; exact h
      · exact ih h0 j (by omega)
    · rw [if_neg h0] at h; exact absurd h h0

set_option maxRecDepth 100000 in
theorem Spend_first (W : World) (nb cb xb a0 b0 a1 b1 g : Nat) (ty : TypeId) (fr : Nat × Nat) (now cost role : Int) (t : ByteArray) (x : Sess) (hx : x.Fine)
    (hN : W.heap[nb]? = some (.cells #[.int .i64 now] 3 (0, 0))) (hC : W.heap[cb]? = some (.cells #[.int .i64 cost] 3 (0, 0))) (hX : W.heap[xb]? = some (.cells (sessC t x) 36 (0, 0)))
    (h0 : W.heap[a0]? = some (.cells #[.bool (codeW now cost)] 4 (0, 0))) (h0' : W.heap[b0]? = some (.cells #[.int .i64 1] 23 (0, 0)))
    (h1 : W.heap[a1]? = some (.cells #[.bool (codeR x role)] 4 (0, 0))) (h1' : W.heap[b1]? = some (.cells #[.int .i64 192] 23 (0, 0)))
    (hg : W.heap[g]? = some (.cells #[.func (.func 92) #[] #[pt a0, pt b0], .func (.func 92) #[] #[pt a1, pt b1], .func (.func 49) #[] #[pt cb, pt xb], .func (.func 50) #[] #[pt xb, pt nb]] ty fr)) :
    Calls Tryz.prog 39 #[.slice (some ⟨g, 0, none⟩) 4 4] W fun e w' =>
      e = .returned (.int .i64 (spendC x now cost role)) ∧ Kp (· = xb) W w' ∧ (spendC x now cost role = 0 → w'.heap[xb]? = some (.cells (sessC t (x.refill now.toNat)) 36 (0, 0))) := by
  have nx : ∀ {b : Nat} {o : Obj}, W.heap[b]? = some o → o ≠ .cells (sessC t x) 36 (0, 0) → b ≠ xb := fun h hne e => by subst e; rw [hX] at h; exact hne (Option.some.inj h).symm
  have sz : ∀ {v : Value} {ty2 : TypeId} {fr2 : Nat × Nat}, Obj.cells #[v] ty2 fr2 ≠ .cells (sessC t x) 36 (0, 0) := fun {v ty2 fr2} h => by
    have := congrArg (fun o => match o with | .cells c _ _ => c.size | _ => 0) h
    simp [sessC] at this
  have kN := nx hN sz; have kC := nx hC sz; have k0 := nx h0 sz; have k0' := nx h0' sz; have k1 := nx h1 sz; have k1' := nx h1' sz
  have kg := nx hg (fun h => by
    have := congrArg (fun o => match o with | .cells c _ _ => c.size | _ => 0) h
    simp [sessC] at this)
  refine (first_ok W g 4 spendF (spendK nb cb xb a0 b0 a1 b1) (spendN x now cost role)
    (fun i w' => Kp (· = xb) W w' ∧ (i < 4 → w'.heap[xb]? = some (.cells (sessC t x) 36 (0, 0))) ∧ (4 ≤ i → w'.heap[xb]? = some (.cells (sessC t (x.refill now.toNat)) 36 (0, 0))))
    (fun w' => Kp (· = xb) W w' ∧ (spendC x now cost role = 0 → w'.heap[xb]? = some (.cells (sessC t (x.refill now.toNat)) 36 (0, 0)))) (by decide) 4 rfl ?_ ?_ ?_ ?_ ?_).mono (fun e w' h => h)
  · intro i W' hi hI
    have hg' := heap_kp0 hg hI.1 kg
    rw [World.cell?]; simp only [hg']
    rcases i with _ | _ | _ | _ | i
    · rfl
    · rfl
    · rfl
    · rfl
    · omega
  · intro i args W' hi
    rcases i with _ | _ | _ | _ | i
    · exact enters_when1 args W'
    · exact enters_when1 args W'
    · exact enters_Spend1 args W'
    · exact enters_Spend2 args W'
    · omega
  · intro i W' hi hz hI
    have bump : ∀ w', i + 1 < 4 → Below W'.heap.size W' w' → (Kp (· = xb) W w' ∧ (i + 1 < 4 → w'.heap[xb]? = some (.cells (sessC t x) 36 (0, 0))) ∧ (4 ≤ i + 1 → w'.heap[xb]? = some (.cells (sessC t (x.refill now.toNat)) 36 (0, 0)))) := fun w' h4 hb =>
      ⟨hI.1.trans (Kp.of_below hb _), fun _ => heap_below (hI.2.1 hi) hb, fun h => by omega⟩
    have stop : ∀ w', Kp (· = xb) W' w' → spendN x now cost role i ≠ 0 → Kp (· = xb) W w' ∧ (spendC x now cost role = 0 → w'.heap[xb]? = some (.cells (sessC t (x.refill now.toNat)) 36 (0, 0))) := fun w' hb hne =>
      ⟨hI.1.trans hb, fun h => absurd (firstN_all h i hi) hne⟩
    have wh : ∀ a b c n, W.heap[a]? = some (.cells #[.bool c] 4 (0, 0)) → W.heap[b]? = some (.cells #[.int .i64 n] 23 (0, 0)) → Calls Tryz.prog 92 #[pt a, pt b] W' fun e w' => e = .returned (.int .i64 (if c then 0 else n)) ∧ w' = W' := fun a b c n ha hb =>
      when1_ok W' a b c n (by have := heap_kp0 ha hI.1 (nx ha sz); rw [World.cell?]; simp only [this]; rfl) (by have := heap_kp0 hb hI.1 (nx hb sz); rw [World.cell?]; simp only [this]; rfl)
    rcases i with _ | _ | _ | _ | i
    · refine (wh a0 b0 _ _ h0 h0').mono ?_
      rintro e w' ⟨rfl, rfl⟩
      exact ⟨rfl, fun _ => bump _ (by omega) (Below.refl _ _), stop _ (Kp.refl _ _)⟩
    · refine (wh a1 b1 _ _ h1 h1').mono ?_
      rintro e w' ⟨rfl, rfl⟩
      exact ⟨rfl, fun _ => bump _ (by omega) (Below.refl _ _), stop _ (Kp.refl _ _)⟩
    · refine (Spend1_ok W' cb xb cost t x hx.ok (by have := heap_kp0 hC hI.1 kC; rw [World.cell?]; simp only [this]; rfl) (hI.2.1 hi)).mono ?_
      rintro e w' ⟨rfl, hb⟩
      exact ⟨rfl, fun _ => bump _ (by omega) hb, stop _ (Kp.of_below hb _)⟩
    · have hw0 := hz 0 (by omega)
      have hcw : codeW now cost = true := by
        cases hcw : codeW now cost
        · simp [spendN, hcw] at hw0
        · rfl
      have hnow : 0 ≤ now ∧ now ≤ 1125899906842624 := by simp [codeW] at hcw; omega
      have hnn : ((now.toNat : Nat) : Int) = now := Int.toNat_of_nonneg hnow.1
      refine (Spend2_ok W' xb nb now.toNat t x (by have := heap_kp0 hN hI.1 kN; rw [World.cell?]; simp only [this, hnn]; rfl) (hI.2.1 hi) (by omega) hx.at_ (by have := hx.left; omega)).mono ?_
      rintro e w' ⟨rfl, hb, hk⟩
      exact ⟨rfl, fun _ => ⟨hI.1.trans hk, fun h => by omega, fun _ => hb⟩, stop _ hk⟩
    · omega
  · exact ⟨Kp.refl _ _, fun _ => hX, fun h => by omega⟩
  · intro W' _ hI
    exact ⟨hI.1, fun _ => hI.2.2 (by omega)⟩

theorem refill_used (x : Sess) (n : Nat) : (x.refill n).used = x.used ∧ (x.refill n).role = x.role ∧ (x.refill n).ends = x.ends ∧ (x.refill n).quota = x.quota ∧ (x.refill n).author = x.author := by
  unfold Sess.refill; split <;> exact ⟨rfl, rfl, rfl, rfl, rfl⟩
theorem refill_left (x : Sess) (n : Nat) : (x.refill n).left ≤ 20 := by
  unfold Sess.refill; split
  · exact Nat.le_refl _
  · simp only; omega
theorem refill_at (x : Sess) (n : Nat) (hx : x.at_ ≤ 1125899906842624) (hn : n ≤ 1125899906842624) : (x.refill n).at_ ≤ 1125899906842624 := by
  unfold Sess.refill; split
  · simp only; omega
  · simp only; omega
theorem spend_facts {x : Sess} {now cost role : Int} (hx : x.Fine) (h : spendC x now cost role = 0) :
    (0 ≤ cost ∧ cost ≤ 1099511627776) ∧ (0 ≤ now ∧ now ≤ 1125899906842624) ∧ (1 ≤ role ∧ role ≤ (x.role : Int)) ∧ ((x.used : Int) + cost ≤ x.quota) ∧ 0 < (x.refill now.toNat).left ∧ (x.spend now.toNat cost.toNat).Fine := by
  have h0 := firstN_all h 0 (by omega)
  have h1 := firstN_all h 1 (by omega)
  have h2 := firstN_all h 2 (by omega)
  have h3 := firstN_all h 3 (by omega)
  have e0 : codeW now cost = true := by
    cases hc : codeW now cost
    · simp [spendN, hc] at h0
    · rfl
  have e1 : codeR x role = true := by
    cases hc : codeR x role
    · simp [spendN, hc] at h1
    · rfl
  have e2 : cost ≤ (x.quota : Int) - (x.used : Int) := by
    rcases Classical.em (cost ≤ (x.quota : Int) - (x.used : Int)) with hc | hc
    · exact hc
    · simp [spendN, hc] at h2
  have e3 : 0 < (x.refill now.toNat).left := by
    rcases Classical.em (0 < (x.refill now.toNat).left) with hc | hc
    · exact hc
    · simp [spendN, hc] at h3
  simp only [codeW, codeR, Bool.and_eq_true, decide_eq_true_eq] at e0 e1
  obtain ⟨u1, u2, u3, u4, u5⟩ := refill_used x now.toNat
  have hl := refill_left x now.toNat
  have hat := refill_at x now.toNat hx.at_ (by omega)
  have hq := hx.quota; have hr := hx.role; have he := hx.ends; have hau := hx.author
  refine ⟨e0.1, e0.2, e1, by omega, e3, ⟨?_, ?_, ?_, ?_, ?_, ?_, ?_⟩⟩
  · show (x.refill now.toNat).role ≤ 3; omega
  · show (x.refill now.toNat).ends ≤ _; omega
  · show (x.refill now.toNat).quota ≤ _; omega
  · show x.used + cost.toNat ≤ (x.refill now.toNat).quota; omega
  · show (x.refill now.toNat).left - 1 ≤ 20; omega
  · exact hat
  · show (x.refill now.toNat).author.size ≤ 40; rw [u5]; exact hau
theorem spend_cells (t : ByteArray) (x : Sess) (now cost : Nat) : ((sessC t (x.refill now)).setIfInBounds 5 (.int .i64 ((x.used + cost : Nat) : Int))).setIfInBounds 6 (.int .i64 (((x.refill now).left - 1 : Nat) : Int)) = sessC t (x.spend now cost) := rfl
end Go.Proofs.YtmbfenkmabdokaaGreatDoor
