/- Parts of the proof: Spend3. -/
import Derived.Test.YtmbfenkmabdokaaGreatDoorR16
set_option linter.all false
namespace Go.Proofs.YtmbfenkmabdokaaGreatDoor
open Go.RowKit Go.Mp

set_option maxRecDepth 100000 in
set_option maxHeartbeats 2000000 in
theorem Spend_live (w : World) (s t p b : Nat) (M : KV) (tk : Bytes) (x : Sess) (now cost role : Int) (h : St w s t p b M) (ht : isTok tk = true)
    (hg : getM M (bs (placeB tk)) = some (bs x.enc)) (hx : x.Fine) (hn : now < (x.ends : Int)) :
    Calls Tryz.prog 18 #[.pointer (some ⟨s, 0, none⟩), .string (bs tk), .int .i64 now, .int .i64 cost, .int .i64 role] w fun e w' =>
      e = .returned (.int .i64 (spendC x now cost role)) ∧ (spendC x now cost role ≠ 0 → Below w.heap.size w w') ∧
      (spendC x now cost role = 0 → St w' s t p b (putM M (bs (placeB tk)) (bs (x.spend now.toNat cost.toNat).enc)) ∧ Kp (· = b) w w') := by
  have hox := hx.ok
  have cT := Lib.hid (fun W => isToken_ok W (bs tk) (by rw [bs_size, tok_len tk ht]; decide))
  have cL := Lib.hid (fun W hb => live_some W s t p b M tk now x (h.below hb) ht hg hox hn)
  have cS := Lib.hid (fun W hb => save_ok W s t p b M tk (x.spend now.toNat cost.toNat) (h.below hb) ht)
  have cD := Lib.hid (fun W hb => Dead_ok W s t p b M (h.below hb))
  have htt : isTok (bs tk).data.toList = true := ht
  rw [htt] at cT
  have HS := Lib.hid h; have HX := Lib.hid hx
  clear h hg hx hox htt
  generalize bs tk = kk at *
  have bn := heap_alloc_new w (.cells #[.int .i64 now] 3)
  have hb0 : Below w.heap.size w ((w.alloc (.cells #[.int .i64 now] 3)).alloc (.cells #[.int .i64 cost] 3)) := ((Below.refl _ _).alloc (Nat.le_refl _) _).alloc (by simp) _
  have bn0 : ((w.alloc (.cells #[.int .i64 now] 3)).alloc (.cells #[.int .i64 cost] 3)).heap[w.heap.size]? = some (.cells #[.int .i64 now] 3 (0, 0)) := by
    simp only [heap_alloc_push, Array.getElem?_push, Array.size_push]; repeat (first | rw [if_pos trivial] | rw [if_neg (by omega)] | rw [if_pos (by omega)])
  have bc0 : ((w.alloc (.cells #[.int .i64 now] 3)).alloc (.cells #[.int .i64 cost] 3)).heap[w.heap.size + 1]? = some (.cells #[.int .i64 cost] 3 (0, 0)) := by
    simp only [heap_alloc_push, Array.getElem?_push, Array.size_push]; repeat (first | rw [if_pos trivial] | rw [if_neg (by omega)] | rw [if_pos (by omega)])
  have HB0 := Lib.hid hb0; have BN0 := Lib.hid bn0; have BC0 := Lib.hid bc0
  clear bn hb0 bn0 bc0
  go_enter Tryz.func18, Tryz.ntmps18
  go_wp2_with fail
  refine (cD.out _ HB0.out).mono ?_
  rintro e w1 ⟨rfl, hw1⟩
  have hb1 : Below w.heap.size w w1 := by rw [← hw1]; exact HB0.out
  have bn1 : w1.heap[w.heap.size]? = some (.cells #[.int .i64 now] 3 (0, 0)) := by rw [← hw1]; exact BN0.out
  have bc1 : w1.heap[w.heap.size + 1]? = some (.cells #[.int .i64 cost] 3 (0, 0)) := by rw [← hw1]; exact BC0.out
  have HB1 := Lib.hid hb1; have BN1 := Lib.hid bn1; have BC1 := Lib.hid bc1
  clear hw1 hb1 bn1 bc1
  dsimp only
  go_wp2_with fail
  refine (cT.out _).mono ?_
  rintro e w2 ⟨rfl, hb2⟩
  have hw2 := HB1.out.trans (hb2.mono HB1.out.size)
  have bn2 := heap_below BN1.out hb2
  have bc2 := heap_below BC1.out hb2
  have cn2 : w2.cell? ⟨w.heap.size, 0, none⟩ = some (.int .i64 now) := by rw [World.cell?]; simp only [bn2]; rfl
  have HB2 := Lib.hid hw2; have BN2 := Lib.hid bn2; have BC2 := Lib.hid bc2
  clear hb2 hw2 bn2 bc2
  dsimp only
  go_wp2_with fail
  refine (cL.out _ HB2.out).mono ?_
  rintro e w3 ⟨rfl, hb3⟩
  have hw3 := HB2.out.trans (hb3.mono HB2.out.size)
  have bn3 := heap_below BN2.out hb3
  have bc3 := heap_below BC2.out hb3
  have hn3 := heap_alloc_new w3 (.cells zeroS 36)
  clear cn2
  have hi : (Tryz.prog.info? 36).map (·.size) = some (sessC kk x).size := by kernel_rfl
  have hall : (sessC kk x).all (·.oneCell') = true := by kernel_rfl
  have hw4 : Below w.heap.size w ((w3.alloc (.cells #[.string ⟨#[]⟩, .string ⟨#[]⟩, .int .i64 0, .int .i64 0, .int .i64 0, .int .i64 0, .int .i64 0, .int .i64 0] 36)).setRow w3.heap.size (sessC kk x)) := below_setRow (hw3.alloc hw3.size _) hw3.size _
  have bn4 : ((w3.alloc (.cells #[.string ⟨#[]⟩, .string ⟨#[]⟩, .int .i64 0, .int .i64 0, .int .i64 0, .int .i64 0, .int .i64 0, .int .i64 0] 36)).setRow w3.heap.size (sessC kk x)).heap[w.heap.size]? = some (.cells #[.int .i64 now] 3 (0, 0)) := (setRow_other _ _ _ _ (Nat.ne_of_lt (lt_of_heap bn3))).trans ((Below.heap_alloc _ _ _ (lt_of_heap bn3)).trans bn3)
  have bc4 : ((w3.alloc (.cells #[.string ⟨#[]⟩, .string ⟨#[]⟩, .int .i64 0, .int .i64 0, .int .i64 0, .int .i64 0, .int .i64 0, .int .i64 0] 36)).setRow w3.heap.size (sessC kk x)).heap[w.heap.size + 1]? = some (.cells #[.int .i64 cost] 3 (0, 0)) := (setRow_other _ _ _ _ (Nat.ne_of_lt (lt_of_heap bc3))).trans ((Below.heap_alloc _ _ _ (lt_of_heap bc3)).trans bc3)
  have bx4 : ((w3.alloc (.cells #[.string ⟨#[]⟩, .string ⟨#[]⟩, .int .i64 0, .int .i64 0, .int .i64 0, .int .i64 0, .int .i64 0, .int .i64 0] 36)).setRow w3.heap.size (sessC kk x)).heap[w3.heap.size]? = some (.cells (sessC kk x) 36 (0, 0)) := setRow_heap _ _ _ _ _ _ hn3
  have HN3 := Lib.hid hn3
  have hxw : w.heap.size + 1 < w3.heap.size := lt_of_heap bc3
  clear hn3 hb3 hw3 bn3 bc3
  generalize hX4 : ((w3.alloc (.cells #[.string ⟨#[]⟩, .string ⟨#[]⟩, .int .i64 0, .int .i64 0, .int .i64 0, .int .i64 0, .int .i64 0, .int .i64 0] 36)).setRow w3.heap.size (sessC kk x)) = w4 at hw4 bn4 bc4 bx4
  have HX4 := Lib.hid hX4
  clear hX4
  generalize hxb : w3.heap.size = xb at hxw bx4
  have HXB := Lib.hid hxb
  clear hxb
  have cc4 : w4.cell? ⟨w.heap.size + 1, 0, none⟩ = some (.int .i64 cost) := by rw [World.cell?]; simp only [bc4]; rfl
  have cn4 : w4.cell? ⟨w.heap.size, 0, none⟩ = some (.int .i64 now) := by rw [World.cell?]; simp only [bn4]; rfl
  have HW4 := Lib.hid hw4; have BN4 := Lib.hid bn4; have BC4 := Lib.hid bc4; have BX4 := Lib.hid bx4; have HXW := Lib.hid hxw
  clear hw4 bn4 bc4 bx4 hxw
  have SX := HX.out
  dsimp only
  go_wp2_with first | (refine wpList_store_row rfl 36 _ _ rfl w3.heap.size (sessC kk x) rfl rfl 36 _ HN3.out hi rfl hall ?_; rw [HX4.out, HXB.out]) | fail
  by_cases ha : 0 ≤ cost ∧ cost ≤ 1099511627776
  · by_cases hc : 1 ≤ role
    · refine (within_ok w4 cost _).mono ?_
      rintro e w5 ⟨rfl, rfl⟩
      rw [decide_eq_true ha]
      dsimp only
      go_wp2_with fail
      refine (within_ok w4 now _).mono ?_
      rintro e w5 ⟨rfl, rfl⟩
      have hv0 : codeW now cost = decide (0 ≤ now ∧ now ≤ 1125899906842624) := by unfold codeW; rw [decide_eq_true ha]; rfl
      generalize decide (0 ≤ now ∧ now ≤ 1125899906842624) = v0 at *
      have HV0 := Lib.hid hv0
      clear hv0
      dsimp only
      go_wp2_with fail
      refine (when_ok w4 v0 1).mono ?_
      rintro e w5 ⟨rfl, hw5⟩
      have ba5 : w5.heap[w4.heap.size]? = some (.cells #[.bool v0] 4 (0, 0)) := by rw [hw5]; exact two_a _ _ _
      have bb5 : w5.heap[w4.heap.size + 1]? = some (.cells #[.int .i64 1] 23 (0, 0)) := by rw [hw5]; exact two_b _ _ _
      have h45 : Below w4.heap.size w4 w5 := by rw [hw5]; exact ((Below.refl _ _).alloc (Nat.le_refl _) _).alloc (by simp) _
      have bx5 := heap_below BX4.out h45
      have cx5 : w5.cell? ⟨xb, 2, none⟩ = some (.int .i64 (x.role : Int)) := by rw [World.cell?]; simp only [bx5]; rfl
      have BA5 := Lib.hid ba5; have BB5 := Lib.hid bb5; have H45 := Lib.hid h45; have BX5 := Lib.hid bx5
      clear hw5 ba5 bb5 h45 bx5 cc4 cn4
      dsimp only
      go_wp2_with fail
      have hv1 : codeR x role = decide (role ≤ (x.role : Int)) := by unfold codeR; rw [decide_eq_true hc]; rfl
      generalize decide (role ≤ (x.role : Int)) = v1 at *
      have HV1 := Lib.hid hv1
      clear hv1
      refine (when_ok w5 v1 192).mono ?_
      rintro e w6 ⟨rfl, hw6⟩
      have ba6 : w6.heap[w5.heap.size]? = some (.cells #[.bool v1] 4 (0, 0)) := by rw [hw6]; exact two_a _ _ _
      have bb6 : w6.heap[w5.heap.size + 1]? = some (.cells #[.int .i64 192] 23 (0, 0)) := by rw [hw6]; exact two_b _ _ _
      have h56 : Below w5.heap.size w5 w6 := by rw [hw6]; exact ((Below.refl _ _).alloc (Nat.le_refl _) _).alloc (by simp) _
      have BA6 := Lib.hid ba6; have BB6 := Lib.hid bb6; have H56 := Lib.hid h56
      clear hw6 ba6 bb6 h56 cx5
      dsimp only
      go_wp2_with fail
      have h46 : Below w4.heap.size w4 w6 := H45.out.trans (H56.out.mono H45.out.size)
      have alk : ∀ {z : Nat} {o q : Obj}, w6.heap[z]? = some o → (w6.alloc q).heap[z]? = some o := fun h => (Below.heap_alloc _ _ _ (lt_of_heap h)).trans h
      have hB6 : Below w.heap.size w w6 := HW4.out.trans (h46.mono HW4.out.size)
      have hsz6 := hB6.size
      refine (Spend_first _ w.heap.size (w.heap.size + 1) xb w4.heap.size (w4.heap.size + 1) w5.heap.size (w5.heap.size + 1) w6.heap.size _ _ now cost role kk x SX (alk (heap_below BN4.out h46)) (alk (heap_below BC4.out h46)) (alk (heap_below BX4.out h46)) (by rw [HV0.out]; exact alk (heap_below BA5.out H56.out)) (alk (heap_below BB5.out H56.out)) (by rw [HV1.out]; exact alk BA6.out) (alk BB6.out) (heap_alloc_new w6 _)).mono ?_
      rintro e w7 ⟨rfl, hk7, hx7⟩
      have hB7 : Below w.heap.size w w7 := by
        have k1 := (Kp.of_below (hB6.alloc hsz6 _) (· = xb)).trans hk7
        exact Kp.below ⟨k1.os, k1.tape, k1.output, k1.size, fun z hz _ => k1.block z hz (by have := HXW.out; omega)⟩
      have bc7 := heap_kp0 (alk (heap_below BC4.out h46)) hk7 (by have := HXW.out; omega)
      clear hk7 alk h46 hB6 hsz6
      have HB7 := Lib.hid hB7; have BC7 := Lib.hid bc7
      clear hB7 bc7
      by_cases hcode : spendC x now cost role = 0
      · have hf := spend_facts SX hcode
        have HF := Lib.hid hf
        have hx7' := hx7 hcode
        have y5 : w7.cell? ⟨xb, 5, none⟩ = some (.int .i64 (x.used : Int)) := by rw [World.cell?]; simp only [hx7']; rw [← (refill_used x now.toNat).1]; rfl
        have y6 : w7.cell? ⟨xb, 6, none⟩ = some (.int .i64 ((x.refill now.toNat).left : Int)) := by rw [World.cell?]; simp only [hx7']; rfl
        have f5 : w7.frozen? ⟨xb, 5, none⟩ = false := by simp [World.frozen?, hx7']
        have f6 : w7.frozen? ⟨xb, 6, none⟩ = false := by simp [World.frozen?, hx7']
        have yc : w7.cell? ⟨w.heap.size + 1, 0, none⟩ = some (.int .i64 cost) := by rw [World.cell?]; simp only [BC7.out]; rfl
        have hr9 : ((w7.setCell ⟨xb, 5, none⟩ (.int .i64 ((x.used : Int) + cost))).setCell ⟨xb, 6, none⟩ (.int .i64 (((x.refill now.toNat).left : Int) - 1))).heap[xb]? = some (.cells (sessC kk (x.spend now.toNat cost.toNat)) 36 (0, 0)) := by
          have h := setCell_row (setCell_row hx7' 5 (.int .i64 ((x.used : Int) + cost))) 6 (.int .i64 (((x.refill now.toNat).left : Int) - 1))
          rw [← spend_cells, show ((x.used + cost.toNat : Nat) : Int) = (x.used : Int) + cost by omega, show (((x.refill now.toNat).left - 1 : Nat) : Int) = ((x.refill now.toNat).left : Int) - 1 by omega]; exact h
        have hB9 : Below w.heap.size w ((w7.setCell ⟨xb, 5, none⟩ (.int .i64 ((x.used : Int) + cost))).setCell ⟨xb, 6, none⟩ (.int .i64 (((x.refill now.toNat).left : Int) - 1))) := by
          have k1 := ((Kp.of_below HB7.out (· = xb)).setCell 5 (.int .i64 ((x.used : Int) + cost)) rfl).setCell 6 (.int .i64 (((x.refill now.toNat).left : Int) - 1)) rfl
          exact Kp.below ⟨k1.os, k1.tape, k1.output, k1.size, fun z hz _ => k1.block z hz (by have := HXW.out; omega)⟩
        have hqq := SX.quota; have huu := SX.used; have hl20 := refill_left x now.toNat
        obtain ⟨⟨q1, q2⟩, _, _, q4, q5, q6⟩ := hf
        have HR9 := Lib.hid hr9; have HB9 := Lib.hid hB9; have QOK := Lib.hid q6.ok
        have his : (Tryz.prog.info? 36).map (·.size) = some (sessC kk (x.spend now.toNat cost.toNat)).size := by kernel_rfl
        clear hx7 hx7' hr9 hB9 q6
        rw [hcode]
        dsimp only
        go_wp2_with first | (refine wpList_load_row rfl 36 _ rfl xb rfl _ (sessC kk (x.spend now.toNat cost.toNat)) _ _ HR9.out Tryz.underlying36 rfl his ?_) | fail
        refine (cS.out _ HB9.out QOK.out).mono ?_
        rintro e w8 ⟨rfl, hs8, hk8⟩
        have HS8 := Lib.hid hs8; have HK8 := Lib.hid ((Kp.of_below HB9.out _).trans hk8)
        clear hs8 hk8
        dsimp only
        go_wp2_with fail
        go_ret
        exact ⟨by rw [hcode]; rfl, fun h => absurd hcode h, fun _ => ⟨HS8.out, HK8.out⟩⟩
      · have HCD := Lib.hid hcode
        obtain ⟨cv, hcv⟩ : ∃ cv, cv = spendC x now cost role := ⟨_, rfl⟩
        have hcv0 : cv ≠ 0 := by rw [hcv]; exact hcode
        rw [← hcv]
        have HCV := Lib.hid hcv
        clear hcode hcv hx7
        dsimp only
        go_wp2_with fail
        go_ret
        exact ⟨by rw [← HCV.out]; rfl, fun _ => HB7.out, fun h => absurd h HCD.out⟩
    · refine (within_ok w4 cost _).mono ?_
      rintro e w5 ⟨rfl, rfl⟩
      rw [decide_eq_true ha]
      dsimp only
      go_wp2_with fail
      refine (within_ok w4 now _).mono ?_
      rintro e w5 ⟨rfl, rfl⟩
      have hv0 : codeW now cost = decide (0 ≤ now ∧ now ≤ 1125899906842624) := by unfold codeW; rw [decide_eq_true ha]; rfl
      generalize decide (0 ≤ now ∧ now ≤ 1125899906842624) = v0 at *
      have HV0 := Lib.hid hv0
      clear hv0
      dsimp only
      go_wp2_with fail
      refine (when_ok w4 v0 1).mono ?_
      rintro e w5 ⟨rfl, hw5⟩
      have ba5 : w5.heap[w4.heap.size]? = some (.cells #[.bool v0] 4 (0, 0)) := by rw [hw5]; exact two_a _ _ _
      have bb5 : w5.heap[w4.heap.size + 1]? = some (.cells #[.int .i64 1] 23 (0, 0)) := by rw [hw5]; exact two_b _ _ _
      have h45 : Below w4.heap.size w4 w5 := by rw [hw5]; exact ((Below.refl _ _).alloc (Nat.le_refl _) _).alloc (by simp) _
      have bx5 := heap_below BX4.out h45
      have cx5 : w5.cell? ⟨xb, 2, none⟩ = some (.int .i64 (x.role : Int)) := by rw [World.cell?]; simp only [bx5]; rfl
      have BA5 := Lib.hid ba5; have BB5 := Lib.hid bb5; have H45 := Lib.hid h45; have BX5 := Lib.hid bx5
      clear hw5 ba5 bb5 h45 bx5 cc4 cn4
      dsimp only
      go_wp2_with fail
      have hv1 : codeR x role = false := by unfold codeR; rw [decide_eq_false (by omega)]; rfl
      have HV1 := Lib.hid hv1
      clear hv1
      refine (when_ok w5 false 192).mono ?_
      rintro e w6 ⟨rfl, hw6⟩
      have ba6 : w6.heap[w5.heap.size]? = some (.cells #[.bool false] 4 (0, 0)) := by rw [hw6]; exact two_a _ _ _
      have bb6 : w6.heap[w5.heap.size + 1]? = some (.cells #[.int .i64 192] 23 (0, 0)) := by rw [hw6]; exact two_b _ _ _
      have h56 : Below w5.heap.size w5 w6 := by rw [hw6]; exact ((Below.refl _ _).alloc (Nat.le_refl _) _).alloc (by simp) _
      have BA6 := Lib.hid ba6; have BB6 := Lib.hid bb6; have H56 := Lib.hid h56
      clear hw6 ba6 bb6 h56 cx5
      dsimp only
      go_wp2_with fail
      have h46 : Below w4.heap.size w4 w6 := H45.out.trans (H56.out.mono H45.out.size)
      have alk : ∀ {z : Nat} {o q : Obj}, w6.heap[z]? = some o → (w6.alloc q).heap[z]? = some o := fun h => (Below.heap_alloc _ _ _ (lt_of_heap h)).trans h
      have hB6 : Below w.heap.size w w6 := HW4.out.trans (h46.mono HW4.out.size)
      have hsz6 := hB6.size
      refine (Spend_first _ w.heap.size (w.heap.size + 1) xb w4.heap.size (w4.heap.size + 1) w5.heap.size (w5.heap.size + 1) w6.heap.size _ _ now cost role kk x SX (alk (heap_below BN4.out h46)) (alk (heap_below BC4.out h46)) (alk (heap_below BX4.out h46)) (by rw [HV0.out]; exact alk (heap_below BA5.out H56.out)) (alk (heap_below BB5.out H56.out)) (by rw [HV1.out]; exact alk BA6.out) (alk BB6.out) (heap_alloc_new w6 _)).mono ?_
      rintro e w7 ⟨rfl, hk7, hx7⟩
      have hB7 : Below w.heap.size w w7 := by
        have k1 := (Kp.of_below (hB6.alloc hsz6 _) (· = xb)).trans hk7
        exact Kp.below ⟨k1.os, k1.tape, k1.output, k1.size, fun z hz _ => k1.block z hz (by have := HXW.out; omega)⟩
      have bc7 := heap_kp0 (alk (heap_below BC4.out h46)) hk7 (by have := HXW.out; omega)
      clear hk7 alk h46 hB6 hsz6
      have HB7 := Lib.hid hB7; have BC7 := Lib.hid bc7
      clear hB7 bc7
      by_cases hcode : spendC x now cost role = 0
      · exfalso
        have hf := spend_facts SX hcode
        omega
      · have HCD := Lib.hid hcode
        obtain ⟨cv, hcv⟩ : ∃ cv, cv = spendC x now cost role := ⟨_, rfl⟩
        have hcv0 : cv ≠ 0 := by rw [hcv]; exact hcode
        rw [← hcv]
        have HCV := Lib.hid hcv
        clear hcode hcv hx7
        dsimp only
        go_wp2_with fail
        go_ret
        exact ⟨by rw [← HCV.out]; rfl, fun _ => HB7.out, fun h => absurd h HCD.out⟩
  · by_cases hc : 1 ≤ role
    · refine (within_ok w4 cost _).mono ?_
      rintro e w5 ⟨rfl, rfl⟩
      rw [decide_eq_false ha]
      have hv0 : codeW now cost = false := by unfold codeW; rw [decide_eq_false ha]; rfl
      have HV0 := Lib.hid hv0
      clear hv0
      dsimp only
      go_wp2_with fail
      refine (when_ok w4 false 1).mono ?_
      rintro e w5 ⟨rfl, hw5⟩
      have ba5 : w5.heap[w4.heap.size]? = some (.cells #[.bool false] 4 (0, 0)) := by rw [hw5]; exact two_a _ _ _
      have bb5 : w5.heap[w4.heap.size + 1]? = some (.cells #[.int .i64 1] 23 (0, 0)) := by rw [hw5]; exact two_b _ _ _
      have h45 : Below w4.heap.size w4 w5 := by rw [hw5]; exact ((Below.refl _ _).alloc (Nat.le_refl _) _).alloc (by simp) _
      have bx5 := heap_below BX4.out h45
      have cx5 : w5.cell? ⟨xb, 2, none⟩ = some (.int .i64 (x.role : Int)) := by rw [World.cell?]; simp only [bx5]; rfl
      have BA5 := Lib.hid ba5; have BB5 := Lib.hid bb5; have H45 := Lib.hid h45; have BX5 := Lib.hid bx5
      clear hw5 ba5 bb5 h45 bx5 cc4 cn4
      dsimp only
      go_wp2_with fail
      have hv1 : codeR x role = decide (role ≤ (x.role : Int)) := by unfold codeR; rw [decide_eq_true hc]; rfl
      generalize decide (role ≤ (x.role : Int)) = v1 at *
      have HV1 := Lib.hid hv1
      clear hv1
      refine (when_ok w5 v1 192).mono ?_
      rintro e w6 ⟨rfl, hw6⟩
      have ba6 : w6.heap[w5.heap.size]? = some (.cells #[.bool v1] 4 (0, 0)) := by rw [hw6]; exact two_a _ _ _
      have bb6 : w6.heap[w5.heap.size + 1]? = some (.cells #[.int .i64 192] 23 (0, 0)) := by rw [hw6]; exact two_b _ _ _
      have h56 : Below w5.heap.size w5 w6 := by rw [hw6]; exact ((Below.refl _ _).alloc (Nat.le_refl _) _).alloc (by simp) _
      have BA6 := Lib.hid ba6; have BB6 := Lib.hid bb6; have H56 := Lib.hid h56
      clear hw6 ba6 bb6 h56 cx5
      dsimp only
      go_wp2_with fail
      have h46 : Below w4.heap.size w4 w6 := H45.out.trans (H56.out.mono H45.out.size)
      have alk : ∀ {z : Nat} {o q : Obj}, w6.heap[z]? = some o → (w6.alloc q).heap[z]? = some o := fun h => (Below.heap_alloc _ _ _ (lt_of_heap h)).trans h
      have hB6 : Below w.heap.size w w6 := HW4.out.trans (h46.mono HW4.out.size)
      have hsz6 := hB6.size
      refine (Spend_first _ w.heap.size (w.heap.size + 1) xb w4.heap.size (w4.heap.size + 1) w5.heap.size (w5.heap.size + 1) w6.heap.size _ _ now cost role kk x SX (alk (heap_below BN4.out h46)) (alk (heap_below BC4.out h46)) (alk (heap_below BX4.out h46)) (by rw [HV0.out]; exact alk (heap_below BA5.out H56.out)) (alk (heap_below BB5.out H56.out)) (by rw [HV1.out]; exact alk BA6.out) (alk BB6.out) (heap_alloc_new w6 _)).mono ?_
      rintro e w7 ⟨rfl, hk7, hx7⟩
      have hB7 : Below w.heap.size w w7 := by
        have k1 := (Kp.of_below (hB6.alloc hsz6 _) (· = xb)).trans hk7
        exact Kp.below ⟨k1.os, k1.tape, k1.output, k1.size, fun z hz _ => k1.block z hz (by have := HXW.out; omega)⟩
      have bc7 := heap_kp0 (alk (heap_below BC4.out h46)) hk7 (by have := HXW.out; omega)
      clear hk7 alk h46 hB6 hsz6
      have HB7 := Lib.hid hB7; have BC7 := Lib.hid bc7
      clear hB7 bc7
      by_cases hcode : spendC x now cost role = 0
      · exfalso
        have hf := spend_facts SX hcode
        omega
      · have HCD := Lib.hid hcode
        obtain ⟨cv, hcv⟩ : ∃ cv, cv = spendC x now cost role := ⟨_, rfl⟩
        have hcv0 : cv ≠ 0 := by rw [hcv]; exact hcode
        rw [← hcv]
        have HCV := Lib.hid hcv
        clear hcode hcv hx7
        dsimp only
        go_wp2_with fail
        go_ret
        exact ⟨by rw [← HCV.out]; rfl, fun _ => HB7.out, fun h => absurd h HCD.out⟩
    · refine (within_ok w4 cost _).mono ?_
      rintro e w5 ⟨rfl, rfl⟩
      rw [decide_eq_false ha]
      have hv0 : codeW now cost = false := by unfold codeW; rw [decide_eq_false ha]; rfl
      have HV0 := Lib.hid hv0
      clear hv0
      dsimp only
      go_wp2_with fail
      refine (when_ok w4 false 1).mono ?_
      rintro e w5 ⟨rfl, hw5⟩
      have ba5 : w5.heap[w4.heap.size]? = some (.cells #[.bool false] 4 (0, 0)) := by rw [hw5]; exact two_a _ _ _
      have bb5 : w5.heap[w4.heap.size + 1]? = some (.cells #[.int .i64 1] 23 (0, 0)) := by rw [hw5]; exact two_b _ _ _
      have h45 : Below w4.heap.size w4 w5 := by rw [hw5]; exact ((Below.refl _ _).alloc (Nat.le_refl _) _).alloc (by simp) _
      have bx5 := heap_below BX4.out h45
      have cx5 : w5.cell? ⟨xb, 2, none⟩ = some (.int .i64 (x.role : Int)) := by rw [World.cell?]; simp only [bx5]; rfl
      have BA5 := Lib.hid ba5; have BB5 := Lib.hid bb5; have H45 := Lib.hid h45; have BX5 := Lib.hid bx5
      clear hw5 ba5 bb5 h45 bx5 cc4 cn4
      dsimp only
      go_wp2_with fail
      have hv1 : codeR x role = false := by unfold codeR; rw [decide_eq_false (by omega)]; rfl
      have HV1 := Lib.hid hv1
      clear hv1
      refine (when_ok w5 false 192).mono ?_
      rintro e w6 ⟨rfl, hw6⟩
      have ba6 : w6.heap[w5.heap.size]? = some (.cells #[.bool false] 4 (0, 0)) := by rw [hw6]; exact two_a _ _ _
      have bb6 : w6.heap[w5.heap.size + 1]? = some (.cells #[.int .i64 192] 23 (0, 0)) := by rw [hw6]; exact two_b _ _ _
      have h56 : Below w5.heap.size w5 w6 := by rw [hw6]; exact ((Below.refl _ _).alloc (Nat.le_refl _) _).alloc (by simp) _
      have BA6 := Lib.hid ba6; have BB6 := Lib.hid bb6; have H56 := Lib.hid h56
      clear hw6 ba6 bb6 h56 cx5
      dsimp only
      go_wp2_with fail
      have h46 : Below w4.heap.size w4 w6 := H45.out.trans (H56.out.mono H45.out.size)
      have alk : ∀ {z : Nat} {o q : Obj}, w6.heap[z]? = some o → (w6.alloc q).heap[z]? = some o := fun h => (Below.heap_alloc _ _ _ (lt_of_heap h)).trans h
      have hB6 : Below w.heap.size w w6 := HW4.out.trans (h46.mono HW4.out.size)
      have hsz6 := hB6.size
      refine (Spend_first _ w.heap.size (w.heap.size + 1) xb w4.heap.size (w4.heap.size + 1) w5.heap.size (w5.heap.size + 1) w6.heap.size _ _ now cost role kk x SX (alk (heap_below BN4.out h46)) (alk (heap_below BC4.out h46)) (alk (heap_below BX4.out h46)) (by rw [HV0.out]; exact alk (heap_below BA5.out H56.out)) (alk (heap_below BB5.out H56.out)) (by rw [HV1.out]; exact alk BA6.out) (alk BB6.out) (heap_alloc_new w6 _)).mono ?_
      rintro e w7 ⟨rfl, hk7, hx7⟩
      have hB7 : Below w.heap.size w w7 := by
        have k1 := (Kp.of_below (hB6.alloc hsz6 _) (· = xb)).trans hk7
        exact Kp.below ⟨k1.os, k1.tape, k1.output, k1.size, fun z hz _ => k1.block z hz (by have := HXW.out; omega)⟩
      have bc7 := heap_kp0 (alk (heap_below BC4.out h46)) hk7 (by have := HXW.out; omega)
      clear hk7 alk h46 hB6 hsz6
      have HB7 := Lib.hid hB7; have BC7 := Lib.hid bc7
      clear hB7 bc7
      by_cases hcode : spendC x now cost role = 0
      · exfalso
        have hf := spend_facts SX hcode
        omega
      · have HCD := Lib.hid hcode
        obtain ⟨cv, hcv⟩ : ∃ cv, cv = spendC x now cost role := ⟨_, rfl⟩
        have hcv0 : cv ≠ 0 := by rw [hcv]; exact hcode
        rw [← hcv]
        have HCV := Lib.hid hcv
        clear hcode hcv hx7
        dsimp only
        go_wp2_with fail
        go_ret
        exact ⟨by rw [← HCV.out]; rfl, fun _ => HB7.out, fun h => absurd h HCD.out⟩
end Go.Proofs.YtmbfenkmabdokaaGreatDoor
