/- Parts of the proof: Spend4, SsL, Iss1. -/
import Derived.Test.YtmbfenkmabdokaaGreatDoorR20
import Derived.Test.YtmbfenkmabdokaaGreatDoorR17
import Derived.Test.YtmbfenkmabdokaaGreatDoorR19
import Derived.Test.YtmbfenkmabdokaaGreatDoorR18
set_option linter.all false
namespace Go.Proofs.YtmbfenkmabdokaaGreatDoor
open Go.RowKit Go.Mp

set_option maxRecDepth 100000 in
set_option maxHeartbeats 2000000 in
theorem Spend_bad (w : World) (s t p b : Nat) (M : KV) (kk : ByteArray) (now cost role : Int) (h : St w s t p b M) (hk : kk.size ≤ 9223372036854775807) (ht : isTok kk.data.toList = false) :
    Calls Tryz.prog 18 #[.pointer (some ⟨s, 0, none⟩), .string kk, .int .i64 now, .int .i64 cost, .int .i64 role] w fun e w' => e = .returned (.int .i64 195) ∧ Below w.heap.size w w' := by
  have cT := Lib.hid (fun W => isToken_ok W kk hk)
  have cD := Lib.hid (fun W hb => Dead_ok W s t p b M (h.below hb))
  rw [ht] at cT
  clear h ht
  have hb0 : Below w.heap.size w ((w.alloc (.cells #[.int .i64 now] 3)).alloc (.cells #[.int .i64 cost] 3)) := ((Below.refl _ _).alloc (Nat.le_refl _) _).alloc (by simp) _
  have HB0 := Lib.hid hb0
  clear hb0
  go_enter Tryz.func18, Tryz.ntmps18
  go_wp2_with fail
  refine (cD.out _ HB0.out).mono ?_
  rintro e w1 ⟨rfl, hw1⟩
  have hb1 : Below w.heap.size w w1 := by rw [← hw1]; exact HB0.out
  have HB1 := Lib.hid hb1
  clear hw1 hb1
  dsimp only
  go_wp2_with fail
  refine (cT.out _).mono ?_
  rintro e w2 ⟨rfl, hb2⟩
  have HB2 := Lib.hid (HB1.out.trans (hb2.mono HB1.out.size))
  clear hb2
  dsimp only
  go_wp2_with fail
  go_ret
  exact ⟨rfl, HB2.out⟩

set_option maxRecDepth 100000 in
set_option maxHeartbeats 2000000 in
theorem Spend_none (w : World) (s t p b : Nat) (M : KV) (tk : Bytes) (now cost role : Int) (h : St w s t p b M) (ht : isTok tk = true)
    (hg : getM M (bs (placeB tk)) = none) :
    Calls Tryz.prog 18 #[.pointer (some ⟨s, 0, none⟩), .string (bs tk), .int .i64 now, .int .i64 cost, .int .i64 role] w fun e w' => e = .returned (.int .i64 190) ∧ Below w.heap.size w w' := by
  have cT := Lib.hid (fun W => isToken_ok W (bs tk) (by rw [bs_size, tok_len tk ht]; decide))
  have cL := Lib.hid (fun W hb => live_none W s t p b M tk now (h.below hb) ht hg)
  have cD := Lib.hid (fun W hb => Dead_ok W s t p b M (h.below hb))
  have htt : isTok (bs tk).data.toList = true := ht
  rw [htt] at cT
  clear h hg htt
  generalize bs tk = kk at *
  have bn := heap_alloc_new w (.cells #[.int .i64 now] 3)
  have hb0 : Below w.heap.size w ((w.alloc (.cells #[.int .i64 now] 3)).alloc (.cells #[.int .i64 cost] 3)) := ((Below.refl _ _).alloc (Nat.le_refl _) _).alloc (by simp) _
  have bn0 : ((w.alloc (.cells #[.int .i64 now] 3)).alloc (.cells #[.int .i64 cost] 3)).heap[w.heap.size]? = some (.cells #[.int .i64 now] 3 (0, 0)) := by
    simp only [heap_alloc_push, Array.getElem?_push, Array.size_push]; repeat (first | rw [if_pos trivial] | rw [if_neg (by omega)] | rw [if_pos (by omega)])
  have bc0 : ((w.alloc (.cells #[.int .i64 now] 3)).alloc (.cells #[.int .i64 cost] 3)).heap[w.heap.size + 1]? = some (.cells #[.int .i64 cost] 3 (0, 0)) := by
    simp only [heap_alloc_push, Array.getElem?_push, Array.size_push]; repeat (first | rw [if_pos trivial] | rw [if_neg (by omega)] | rw [if_pos (by omega)])
  have HB0 := Lib.hid hb0; have BN0 := Lib.hid bn0; have BC0 := Lib.hid bc0
  clear bn hb0 bn0 bc0
  go_enter Tryz.func18, Tryz.ntmps18
  go_wp2_with fail
  refine (cD.out _ HB0.out).mono ?_
  rintro e w1 ⟨rfl, hw1⟩
  have hb1 : Below w.heap.size w w1 := by rw [← hw1]; exact HB0.out
  have bn1 : w1.heap[w.heap.size]? = some (.cells #[.int .i64 now] 3 (0, 0)) := by rw [← hw1]; exact BN0.out
  have bc1 : w1.heap[w.heap.size + 1]? = some (.cells #[.int .i64 cost] 3 (0, 0)) := by rw [← hw1]; exact BC0.out
  have HB1 := Lib.hid hb1; have BN1 := Lib.hid bn1; have BC1 := Lib.hid bc1
  clear hw1 hb1 bn1 bc1
  dsimp only
  go_wp2_with fail
  refine (cT.out _).mono ?_
  rintro e w2 ⟨rfl, hb2⟩
  have hw2 := HB1.out.trans (hb2.mono HB1.out.size)
  have bn2 := heap_below BN1.out hb2
  have bc2 := heap_below BC1.out hb2
  have cn2 : w2.cell? ⟨w.heap.size, 0, none⟩ = some (.int .i64 now) := by rw [World.cell?]; simp only [bn2]; rfl
  have HB2 := Lib.hid hw2; have BN2 := Lib.hid bn2; have BC2 := Lib.hid bc2
  clear hb2 hw2 bn2 bc2
  dsimp only
  go_wp2_with fail
  refine (cL.out _ HB2.out).mono ?_
  rintro e w3 ⟨rfl, hb3⟩
  have hw3 := HB2.out.trans (hb3.mono HB2.out.size)
  have hn3 := heap_alloc_new w3 (.cells zeroS 36)
  clear cn2
  have hall : zeroS.all (·.oneCell') = true := by kernel_rfl
  have hw4 : Below w.heap.size w ((w3.alloc (.cells zeroS 36)).setRow w3.heap.size zeroS) := below_setRow (hw3.alloc hw3.size _) hw3.size _
  have HN3 := Lib.hid hn3; have HW4 := Lib.hid hw4
  clear hn3 hb3 hw3 hw4
  dsimp only
  go_wp2_with first | (refine wpList_store_row rfl 36 _ _ rfl w3.heap.size zeroS rfl rfl 36 _ HN3.out hiS rfl hall ?_) | fail
  go_ret
  exact ⟨rfl, HW4.out⟩

set_option maxRecDepth 100000 in
set_option maxHeartbeats 2000000 in
theorem Spend_late (w : World) (s t p b : Nat) (M : KV) (tk : Bytes) (now cost role : Int) (x : Sess) (h : St w s t p b M) (ht : isTok tk = true)
    (hg : getM M (bs (placeB tk)) = some (bs x.enc)) (hx : x.Ok) (hn : (x.ends : Int) ≤ now) :
    Calls Tryz.prog 18 #[.pointer (some ⟨s, 0, none⟩), .string (bs tk), .int .i64 now, .int .i64 cost, .int .i64 role] w fun e w' => e = .returned (.int .i64 191) ∧ Below w.heap.size w w' := by
  have cT := Lib.hid (fun W => isToken_ok W (bs tk) (by rw [bs_size, tok_len tk ht]; decide))
  have cL := Lib.hid (fun W hb => live_late W s t p b M tk now x (h.below hb) ht hg hx hn)
  have cD := Lib.hid (fun W hb => Dead_ok W s t p b M (h.below hb))
  have htt : isTok (bs tk).data.toList = true := ht
  rw [htt] at cT
  clear h hg htt
  generalize bs tk = kk at *
  have bn := heap_alloc_new w (.cells #[.int .i64 now] 3)
  have hb0 : Below w.heap.size w ((w.alloc (.cells #[.int .i64 now] 3)).alloc (.cells #[.int .i64 cost] 3)) := ((Below.refl _ _).alloc (Nat.le_refl _) _).alloc (by simp) _
  have bn0 : ((w.alloc (.cells #[.int .i64 now] 3)).alloc (.cells #[.int .i64 cost] 3)).heap[w.heap.size]? = some (.cells #[.int .i64 now] 3 (0, 0)) := by
    simp only [heap_alloc_push, Array.getElem?_push, Array.size_push]; repeat (first | rw [if_pos trivial] | rw [if_neg (by omega)] | rw [if_pos (by omega)])
  have bc0 : ((w.alloc (.cells #[.int .i64 now] 3)).alloc (.cells #[.int .i64 cost] 3)).heap[w.heap.size + 1]? = some (.cells #[.int .i64 cost] 3 (0, 0)) := by
    simp only [heap_alloc_push, Array.getElem?_push, Array.size_push]; repeat (first | rw [if_pos trivial] | rw [if_neg (by omega)] | rw [if_pos (by omega)])
  have HB0 := Lib.hid hb0; have BN0 := Lib.hid bn0; have BC0 := Lib.hid bc0
  clear bn hb0 bn0 bc0
  go_enter Tryz.func18, Tryz.ntmps18
  go_wp2_with fail
  refine (cD.out _ HB0.out).mono ?_
  rintro e w1 ⟨rfl, hw1⟩
  have hb1 : Below w.heap.size w w1 := by rw [← hw1]; exact HB0.out
  have bn1 : w1.heap[w.heap.size]? = some (.cells #[.int .i64 now] 3 (0, 0)) := by rw [← hw1]; exact BN0.out
  have bc1 : w1.heap[w.heap.size + 1]? = some (.cells #[.int .i64 cost] 3 (0, 0)) := by rw [← hw1]; exact BC0.out
  have HB1 := Lib.hid hb1; have BN1 := Lib.hid bn1; have BC1 := Lib.hid bc1
  clear hw1 hb1 bn1 bc1
  dsimp only
  go_wp2_with fail
  refine (cT.out _).mono ?_
  rintro e w2 ⟨rfl, hb2⟩
  have hw2 := HB1.out.trans (hb2.mono HB1.out.size)
  have bn2 := heap_below BN1.out hb2
  have bc2 := heap_below BC1.out hb2
  have cn2 : w2.cell? ⟨w.heap.size, 0, none⟩ = some (.int .i64 now) := by rw [World.cell?]; simp only [bn2]; rfl
  have HB2 := Lib.hid hw2; have BN2 := Lib.hid bn2; have BC2 := Lib.hid bc2
  clear hb2 hw2 bn2 bc2
  dsimp only
  go_wp2_with fail
  refine (cL.out _ HB2.out).mono ?_
  rintro e w3 ⟨rfl, hb3⟩
  have hw3 := HB2.out.trans (hb3.mono HB2.out.size)
  have hn3 := heap_alloc_new w3 (.cells zeroS 36)
  clear cn2
  have hall : zeroS.all (·.oneCell') = true := by kernel_rfl
  have hw4 : Below w.heap.size w ((w3.alloc (.cells zeroS 36)).setRow w3.heap.size zeroS) := below_setRow (hw3.alloc hw3.size _) hw3.size _
  have HN3 := Lib.hid hn3; have HW4 := Lib.hid hw4
  clear hn3 hb3 hw3 hw4
  dsimp only
  go_wp2_with first | (refine wpList_store_row rfl 36 _ _ rfl w3.heap.size zeroS rfl rfl 36 _ HN3.out hiS rfl hall ?_) | fail
  go_ret
  exact ⟨rfl, HW4.out⟩

end Go.Proofs.YtmbfenkmabdokaaGreatDoor

namespace Go.Proofs.YtmbfenkmabdokaaGreatDoor
open Go.RowKit Go.Mp

theorem tokenO_tok {k c tk : Bytes} (h : tokenO k c = some tk) : isTok tk = true := by
  unfold tokenO at h
  split at h
  · rename_i hh; cases h; exact hh.1
  · cases h
def findR (L : SL) (k c : Bytes) (now : Int) : Array Value × Int :=
  match tokenO k c with
  | none => (zeroS, 195)
  | some tk => match getL L tk with
    | none => (zeroS, 190)
    | some x => if (x.ends : Int) ≤ now then (zeroS, 191) else (sessC (bs tk) x, 0)
theorem Find_L (w : World) (s t p b : Nat) (L : SL) (k c : ByteArray) (now : Int) (h : Ss w s t p b L) (hk : k.size ≤ 140737488355100) (hc : c.size ≤ 140737488355328) :
    Calls Tryz.prog 17 #[.pointer (some ⟨s, 0, none⟩), .string k, .string c, .int .i64 now] w fun e w' =>
      e = .returned (.tuple #[.agg (findR L k.data.toList c.data.toList now).1, .int .i64 (findR L k.data.toList c.data.toList now).2]) ∧ Below w.heap.size w w' := by
  unfold findR
  cases ht : tokenO k.data.toList c.data.toList with
  | none => exact Find_bad w s t p b (kvOf L) k c now h.st hk hc ht
  | some tk =>
    have hi := tokenO_tok ht
    have hg := get_kv L tk
    simp only
    cases hx : getL L tk with
    | none => rw [hx] at hg; exact Find_none w s t p b (kvOf L) k c now tk h.st hk hc ht hi hg
    | some x =>
      rw [hx] at hg
      have hf := (h.ok.tok _ (getL_mem hx)).2
      simp only
      by_cases hn : (x.ends : Int) ≤ now
      · rw [if_pos hn]; exact Find_late w s t p b (kvOf L) k c now tk x h.st hk hc ht hi hg hf.ok hn
      · rw [if_neg hn]; exact Find_some w s t p b (kvOf L) k c now tk x h.st hk hc ht hi hg hf.ok (by omega)
def spendR (L : SL) (tok : Bytes) (now cost role : Int) : Int :=
  if isTok tok = true then match getL L tok with
    | none => 190
    | some x => if (x.ends : Int) ≤ now then 191 else spendC x now cost role
  else 195
def spendS (L : SL) (tok : Bytes) (now cost role : Int) : SL :=
  if spendR L tok now cost role = 0 then match getL L tok with
    | none => L
    | some x => putL L tok (x.spend now.toNat cost.toNat)
  else L
theorem Spend_L (w : World) (s t p b : Nat) (L : SL) (kk : ByteArray) (now cost role : Int) (h : Ss w s t p b L) (hk : kk.size ≤ 9223372036854775807) :
    Calls Tryz.prog 18 #[.pointer (some ⟨s, 0, none⟩), .string kk, .int .i64 now, .int .i64 cost, .int .i64 role] w fun e w' =>
      e = .returned (.int .i64 (spendR L kk.data.toList now cost role)) ∧ Ss w' s t p b (spendS L kk.data.toList now cost role) ∧ Kp (· = b) w w' := by
  have nope : ∀ {n : Int}, spendR L kk.data.toList now cost role = n → n ≠ 0 → ∀ w', Below w.heap.size w w' → Ss w' s t p b (spendS L kk.data.toList now cost role) ∧ Kp (· = b) w w' := by
    intro n hn hn0 w' hb
    unfold spendS
    rw [if_neg (by rw [hn]; exact hn0)]
    exact ⟨h.below hb, Kp.of_below hb _⟩
  obtain ⟨tk, rfl⟩ : ∃ tk, kk = bs tk := ⟨kk.data.toList, rfl⟩
  rw [bs_list] at nope ⊢
  by_cases hi : isTok tk = true
  · have hg := get_kv L tk
    cases hx : getL L tk with
    | none =>
      rw [hx] at hg
      have hr : spendR L tk now cost role = 190 := by unfold spendR; rw [if_pos hi, hx]
      refine (Spend_none w s t p b (kvOf L) tk now cost role h.st hi hg).mono ?_
      rintro e w' ⟨rfl, hb⟩
      exact ⟨by rw [hr], nope hr (by decide) _ hb⟩
    | some x =>
      rw [hx] at hg
      have hf := (h.ok.tok _ (getL_mem hx)).2
      by_cases hn : (x.ends : Int) ≤ now
      · have hr : spendR L tk now cost role = 191 := by unfold spendR; rw [if_pos hi, hx]; exact if_pos hn
        refine (Spend_late w s t p b (kvOf L) tk now cost role x h.st hi hg hf.ok hn).mono ?_
        rintro e w' ⟨rfl, hb⟩
        exact ⟨by rw [hr], nope hr (by decide) _ hb⟩
      · have hr : spendR L tk now cost role = spendC x now cost role := by unfold spendR; rw [if_pos hi, hx]; exact if_neg hn
        refine (Spend_live w s t p b (kvOf L) tk x now cost role h.st hi hg hf (by omega)).mono ?_
        rintro e w' ⟨rfl, h1, h2⟩
        refine ⟨by rw [hr], ?_⟩
        by_cases h0 : spendC x now cost role = 0
        · obtain ⟨hs, hkp⟩ := h2 h0
          unfold spendS
          rw [if_pos (by rw [hr]; exact h0), hx]
          rw [put_kv] at hs
          exact ⟨⟨hs, h.ok.put hi (spend_facts hf h0).2.2.2.2.2⟩, hkp⟩
        · exact nope hr h0 _ (h1 h0)
  · have hr : spendR L tk now cost role = 195 := by unfold spendR; rw [if_neg hi]
    refine (Spend_bad w s t p b (kvOf L) (bs tk) now cost role h.st hk (by rw [bs_list]; exact Bool.eq_false_iff.2 hi)).mono ?_
    rintro e w' ⟨rfl, hb⟩
    exact ⟨by rw [hr], nope hr (by decide) _ hb⟩
end Go.Proofs.YtmbfenkmabdokaaGreatDoor

namespace Go.Proofs.YtmbfenkmabdokaaGreatDoor
open Go.RowKit Go.Mp

set_option maxRecDepth 100000 in
theorem Issue1_ok (w : World) (s t p b sb tb : Nat) (L : SL) (tk : Bytes) (h : Ss w s t p b L) (ht : isTok tk = true)
    (hS : w.cell? ⟨sb, 0, none⟩ = some (.pointer (some ⟨s, 0, none⟩))) (hT : w.cell? ⟨tb, 0, none⟩ = some (.string (bs tk))) :
    Calls Tryz.prog 44 #[pt sb, pt tb] w fun e w' => e = .returned (.int .i64 (match getL L tk with | none => 0 | some _ => 190)) ∧ Below w.heap.size w w' := by
  have hg := get_kv L tk
  have hi : (Tryz.prog.info? 36).map (·.size) = some zeroS.size := by kernel_rfl
  have hall : zeroS.all (·.oneCell') = true := by kernel_rfl
  unfold pt
  cases hx : getL L tk with
  | none =>
    rw [hx] at hg
    have cL := Lib.hid (load_none w s t p b (kvOf L) tk h.st ht hg)
    clear h hg
    go_enter Tryz.func44, Tryz.ntmps44
    go_wp2_with fail
    refine cL.out.mono ?_
    rintro e w1 ⟨rfl, hb1⟩
    have hn2 := heap_alloc_new w1 (.cells zeroS 36)
    have hw3 : Below w.heap.size w ((w1.alloc (.cells zeroS 36)).setRow w1.heap.size zeroS) := below_setRow (hb1.alloc hb1.size _) hb1.size _
    have HN2 := Lib.hid hn2; have HW3 := Lib.hid hw3
    clear hb1 hn2 hw3 hS hT
    dsimp only
    go_wp2_with first | (refine wpList_store_row rfl 36 _ _ rfl w1.heap.size zeroS rfl rfl 36 _ HN2.out hi rfl hall ?_) | fail
    go_ret
    exact ⟨rfl, HW3.out⟩
  | some x =>
    rw [hx] at hg
    have hf := (h.ok.tok _ (getL_mem hx)).2
    have cL := Lib.hid (load_some w s t p b (kvOf L) tk x h.st ht hg hf.ok)
    have hi2 : (Tryz.prog.info? 36).map (·.size) = some (sessC (bs tk) x).size := by kernel_rfl
    have hall2 : (sessC (bs tk) x).all (·.oneCell') = true := by kernel_rfl
    clear h hg hf
    go_enter Tryz.func44, Tryz.ntmps44
    go_wp2_with fail
    refine cL.out.mono ?_
    rintro e w1 ⟨rfl, hb1⟩
    have hn2 := heap_alloc_new w1 (.cells zeroS 36)
    have hw3 : Below w.heap.size w ((w1.alloc (.cells zeroS 36)).setRow w1.heap.size (sessC (bs tk) x)) := below_setRow (hb1.alloc hb1.size _) hb1.size _
    have HN2 := Lib.hid hn2; have HW3 := Lib.hid hw3
    clear hb1 hn2 hw3 hS hT
    dsimp only
    go_wp2_with first | (refine wpList_store_row rfl 36 _ _ rfl w1.heap.size (sessC (bs tk) x) rfl rfl 36 _ HN2.out hi2 rfl hall2 ?_) | fail
    go_ret
    exact ⟨rfl, HW3.out⟩

set_option maxRecDepth 100000 in
theorem Issue2_ok (w : World) (s t p b sb : Nat) (L : SL) (h : Ss w s t p b L) (hL : L.length ≤ 1000)
    (hS : w.cell? ⟨sb, 0, none⟩ = some (.pointer (some ⟨s, 0, none⟩))) :
    Calls Tryz.prog 46 #[pt sb] w fun e w' => e = .returned (.int .i64 (if decide (L.length < 100) then 0 else 2)) ∧ Below w.heap.size w w' := by
  generalize hd : decide (L.length < 100) = bd
  cases bd with
  | true =>
    have hlt : L.length < 100 := by simpa using hd
    clear hd
    have cA := Lib.hid (SAll_ok w s t p b L h hL)
    clear h
    unfold pt
    go_enter Tryz.func46, Tryz.ntmps46
    go_wp2_with fail
    refine cA.out.mono ?_
    rintro e w1 ⟨v, l, rfl, hp, how, hb1⟩
    obtain ⟨A, c, rfl⟩ := own_form3 how
    have hll := hp.length_eq
    have HB1 := Lib.hid hb1
    have hln : l.length < 100 := by omega
    clear hp how hb1 hS
    dsimp only
    go_wp2_with fail
    rw [show decide ((L.length : Int) < 100) = true from decide_eq_true (by omega)]
    refine (when_ok w1 true 2).mono ?_
    rintro e w2 ⟨rfl, hw2⟩
    have c0 : w2.cell? ⟨w1.heap.size, 0, none⟩ = some (.bool true) := by rw [World.cell?]; simp only [hw2, two_a]; rfl
    have c1 : w2.cell? ⟨w1.heap.size + 1, 0, none⟩ = some (.int .i64 2) := by rw [World.cell?]; simp only [hw2, two_b]; rfl
    have h12 : Below w1.heap.size w1 w2 := by rw [hw2]; exact ((Below.refl _ _).alloc (Nat.le_refl _) _).alloc (by simp) _
    have HB2 := Lib.hid (HB1.out.trans (h12.mono HB1.out.size)); have C0 := Lib.hid c0; have C1 := Lib.hid c1
    clear hw2 h12 c0 c1
    dsimp only
    go_wp2_with fail
    refine (when1_ok w2 _ _ _ _ C0.out C1.out).mono ?_
    rintro e w3 ⟨rfl, rfl⟩
    dsimp only
    go_wp2_with fail
    go_ret
    exact ⟨rfl, HB2.out⟩
  | false =>
    have hlt : ¬ L.length < 100 := by simpa using hd
    clear hd
    have cA := Lib.hid (SAll_ok w s t p b L h hL)
    clear h
    unfold pt
    go_enter Tryz.func46, Tryz.ntmps46
    go_wp2_with fail
    refine cA.out.mono ?_
    rintro e w1 ⟨v, l, rfl, hp, how, hb1⟩
    obtain ⟨A, c, rfl⟩ := own_form3 how
    have hll := hp.length_eq
    have HB1 := Lib.hid hb1
    have hln : ¬ l.length < 100 := by omega
    clear hp how hb1 hS
    dsimp only
    go_wp2_with fail
    rw [show decide ((L.length : Int) < 100) = false from decide_eq_false (by omega)]
    refine (when_ok w1 false 2).mono ?_
    rintro e w2 ⟨rfl, hw2⟩
    have c0 : w2.cell? ⟨w1.heap.size, 0, none⟩ = some (.bool false) := by rw [World.cell?]; simp only [hw2, two_a]; rfl
    have c1 : w2.cell? ⟨w1.heap.size + 1, 0, none⟩ = some (.int .i64 2) := by rw [World.cell?]; simp only [hw2, two_b]; rfl
    have h12 : Below w1.heap.size w1 w2 := by rw [hw2]; exact ((Below.refl _ _).alloc (Nat.le_refl _) _).alloc (by simp) _
    have HB2 := Lib.hid (HB1.out.trans (h12.mono HB1.out.size)); have C0 := Lib.hid c0; have C1 := Lib.hid c1
    clear hw2 h12 c0 c1
    dsimp only
    go_wp2_with fail
    refine (when1_ok w2 _ _ _ _ C0.out C1.out).mono ?_
    rintro e w3 ⟨rfl, rfl⟩
    dsimp only
    go_wp2_with fail
    go_ret
    exact ⟨rfl, HB2.out⟩

theorem enters_Issue1 : ∀ args (W : World), (callFunc 44 args).run Tryz.prog W = .ok (.enter 44 args) W := by
  exact enters_of Tryz.func44 (by kernel_rfl) rfl
theorem enters_Issue2 : ∀ args (W : World), (callFunc 46 args).run Tryz.prog W = .ok (.enter 46 args) W := by
  exact enters_of Tryz.func46 (by kernel_rfl) rfl

def issF : Nat → Nat
  | 5 => 44
  | 6 => 46
  | _ => 92
def issK (sb tb a0 b0 a1 b1 a2 b2 a3 b3 a4 b4 : Nat) : Nat → Array Value
  | 0 => #[pt a0, pt b0]
  | 1 => #[pt a1, pt b1]
  | 2 => #[pt a2, pt b2]
  | 3 => #[pt a3, pt b3]
  | 4 => #[pt a4, pt b4]
  | 5 => #[pt sb, pt tb]
  | _ => #[pt sb]
/-- the cell of a flag, and that of a code, as 'when' lays them -/
def WhenAt (W : World) (a b : Nat) (c : Bool) (n : Int) : Prop := W.heap[a]? = some (.cells #[.bool c] 4 (0, 0)) ∧ W.heap[b]? = some (.cells #[.int .i64 n] 23 (0, 0))
theorem WhenAt.below {W W' : World} {a b : Nat} {c : Bool} {n : Int} (h : WhenAt W a b c n) (k : Below W.heap.size W W') : WhenAt W' a b c n := ⟨heap_below h.1 k, heap_below h.2 k⟩
theorem WhenAt.call {W : World} {a b : Nat} {c : Bool} {n : Int} (h : WhenAt W a b c n) : Calls Tryz.prog 92 #[pt a, pt b] W fun e w' => e = .returned (.int .i64 (if c then 0 else n)) ∧ w' = W :=
  when1_ok W a b c n (by rw [World.cell?]; simp only [h.1]; rfl) (by rw [World.cell?]; simp only [h.2]; rfl)

set_option maxRecDepth 100000 in
theorem Issue_first (W : World) (s t p b : Nat) (L : SL) (tk : Bytes) (n : Nat) (au : Bytes) (role ends quota at_ : Int) (sb tb g a0 b0 a1 b1 a2 b2 a3 b3 a4 b4 : Nat) (ty : TypeId) (fr : Nat × Nat)
    (h : Ss W s t p b L) (hL : L.length ≤ 1000) (hn : n = 16 → isTok tk = true) {c1 c2 c3 c4 : Bool} (e1 : c1 = decide (n = 16)) (e2 : c2 = isName au) (e3 : c3 = decide (1 ≤ role ∧ role ≤ 3))
    (e4 : c4 = (decide (0 ≤ ends ∧ ends ≤ 1125899906842624) && (decide (0 ≤ quota ∧ quota ≤ 1099511627776) && decide (0 ≤ at_ ∧ at_ ≤ 1125899906842624))))
    (hS : W.heap[sb]? = some (.cells #[.pointer (some ⟨s, 0, none⟩)] 31 (0, 0))) (hT : W.heap[tb]? = some (.cells #[.string (bs tk)] 9 (0, 0)))
    (h0 : WhenAt W a0 b0 true 151) (h1 : WhenAt W a1 b1 c1 1) (h2 : WhenAt W a2 b2 c2 171) (h3 : WhenAt W a3 b3 c3 192) (h4 : WhenAt W a4 b4 c4 1)
    (hg : W.heap[g]? = some (.cells #[.func (.func 92) #[] #[pt a0, pt b0], .func (.func 92) #[] #[pt a1, pt b1], .func (.func 92) #[] #[pt a2, pt b2], .func (.func 92) #[] #[pt a3, pt b3], .func (.func 92) #[] #[pt a4, pt b4], .func (.func 44) #[] #[pt sb, pt tb], .func (.func 46) #[] #[pt sb]] ty fr)) :
    Calls Tryz.prog 39 #[.slice (some ⟨g, 0, none⟩) 7 7] W fun e w' =>
      e = .returned (.int .i64 (issueC L n tk au role ends quota at_)) ∧ Below W.heap.size W w' := by
  subst e1; subst e2; subst e3; subst e4
  refine (first_ok W g 7 issF (issK sb tb a0 b0 a1 b1 a2 b2 a3 b3 a4 b4) (issueN L n tk au role ends quota at_)
    (fun _ w' => Below W.heap.size W w') (fun w' => Below W.heap.size W w') (by decide) 7 rfl ?_ ?_ ?_ ?_ ?_).mono (fun e w' h => h)
  · intro i W' hi hI
    have hg' := heap_below hg hI
    rw [World.cell?]; simp only [hg']
    rcases i with _ | _ | _ | _ | _ | _ | _ | i
    · rfl
    · rfl
    · rfl
    · rfl
    · rfl
    · rfl
    · rfl
    · omega
  · intro i args W' hi
    rcases i with _ | _ | _ | _ | _ | _ | _ | i
    · exact enters_when1 args W'
    · exact enters_when1 args W'
    · exact enters_when1 args W'
    · exact enters_when1 args W'
    · exact enters_when1 args W'
    · exact enters_Issue1 args W'
    · exact enters_Issue2 args W'
    · omega
  · intro i W' hi hz hI
    have stay : ∀ {c : Bool} {k : Int} {a b : Nat}, WhenAt W a b c k → issueN L n tk au role ends quota at_ i = (if c then 0 else k) →
        Calls Tryz.prog 92 #[pt a, pt b] W' fun e w' => e = .returned (.int .i64 (issueN L n tk au role ends quota at_ i)) ∧ (issueN L n tk au role ends quota at_ i = 0 → Below W.heap.size W w') ∧ (issueN L n tk au role ends quota at_ i ≠ 0 → Below W.heap.size W w') := by
      intro c k a b hw he
      refine (hw.below hI).call.mono ?_
      rintro e w' ⟨rfl, rfl⟩
      exact ⟨by rw [he], fun _ => hI, fun _ => hI⟩
    rcases i with _ | _ | _ | _ | _ | _ | _ | i
    · exact stay h0 rfl
    · exact stay h1 rfl
    · exact stay h2 rfl
    · exact stay h3 rfl
    · exact stay h4 rfl
    · have hn1 := hz 1 (by omega)
      have hn16 : n = 16 := by
        rcases Classical.em (n = 16) with hc | hc
        · exact hc
        · simp [issueN, hc] at hn1
      refine (Issue1_ok W' s t p b sb tb L tk (h.below hI) (hn hn16) (by have := heap_below hS hI; rw [World.cell?]; simp only [this]; rfl) (by have := heap_below hT hI; rw [World.cell?]; simp only [this]; rfl)).mono ?_
      rintro e w' ⟨rfl, hb⟩
      exact ⟨rfl, fun _ => hI.trans (hb.mono hI.size), fun _ => hI.trans (hb.mono hI.size)⟩
    · refine (Issue2_ok W' s t p b sb L (h.below hI) hL (by have := heap_below hS hI; rw [World.cell?]; simp only [this]; rfl)).mono ?_
      rintro e w' ⟨rfl, hb⟩
      exact ⟨rfl, fun _ => hI.trans (hb.mono hI.size), fun _ => hI.trans (hb.mono hI.size)⟩
    · omega
  · exact Below.refl _ _
  · intro W' _ hI
    exact hI
end Go.Proofs.YtmbfenkmabdokaaGreatDoor
