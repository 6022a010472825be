/- Parts of the proof: Name, Tok, Find. -/
import Derived.Test.YtmbfenkmabdokaaGreatDoorR15
import Derived.Test.YtmbfenkmabdokaaGreatDoorR17
import Derived.Test.YtmbfenkmabdokaaGreatDoorR16
set_option linter.all false
namespace Go.Proofs.YtmbfenkmabdokaaGreatDoor
open Go.RowKit Go.Mp

def nameC (c : UInt8) : Bool := (97 ≤ c.toNat && c.toNat ≤ 122) || (65 ≤ c.toNat && c.toNat ≤ 90) || (48 ≤ c.toNat && c.toNat ≤ 57) || c.toNat == 45 || c.toNat == 95
def isName (s : Bytes) : Bool := s.all nameC && (!s.isEmpty && decide (s.length ≤ 40))

set_option maxRecDepth 100000 in
set_option maxHeartbeats 1000000 in
set_option linter.unusedSimpArgs false in
theorem Name_ok (w : World) (s : ByteArray) (hs : s.size ≤ 9223372036854775807) :
    Calls Tryz.prog 42 #[.string s] w fun e w' => e = .returned (.bool (isName s.data.toList)) ∧ w' = w := by
  go_enter Tryz.func42, Tryz.ntmps42
  go_wp2
  go_loopw [7] (fun i wr => ∃ k : Nat, k ≤ s.size ∧ i = .int .i64 k ∧ RowKit.Hid (∀ j, (hj : j < s.size) → j < k → nameC (s[j]'hj) = true) ∧ wr = w) (fun i _ => s.size - (intOf i).toNat)
  case atStart => exact ⟨0, by omega, rfl, Lib.hid (fun j _ hj => by omega), rfl⟩
  case round =>
    obtain ⟨k, hk, rfl, hz, rfl⟩ := hrel
    by_cases hlt : k < s.size
    · have up : nameC s[k] = true → RowKit.Hid (∀ j, (hj : j < s.size) → j < k + 1 → nameC (s[j]'hj) = true) := fun h => Lib.hid (fun j hj hjk => by
        by_cases e : j = k
        · subst e; exact h
        · exact hz.out j hj (by omega))
      have no : nameC s[k] = false → isName s.data.toList = false := fun h => by
        unfold isName
        have : s.data.toList.all nameC = false := by
          rw [List.all_eq_false]; exact ⟨s[k], by simp [ByteArray.getElem_eq_getElem_data], by simp [h]⟩
        rw [this]; rfl
      have UP := Lib.hid up; have NO := Lib.hid no
      clear up no
      go_wp2_with fail
      all_goals first
        | (go_ret
           have hN : nameC s[k] = false := by
             rw [Bool.eq_false_iff]
             simp only [nameC, ne_eq, Bool.or_eq_true, Bool.and_eq_true, decide_eq_true_eq, beq_iff_eq]
             try simp only [Bool.not_eq_eq_eq_not, Bool.not_true, Bool.not_false, decide_eq_true_eq, decide_eq_false_iff_not, beq_eq_false_iff_ne, beq_iff_eq, ne_eq] at *
             omega
           exact ⟨by rw [NO.out hN]; rfl, rfl⟩)
        | (have hN : nameC s[k] = true := by
             simp only [nameC, Bool.or_eq_true, Bool.and_eq_true, decide_eq_true_eq, beq_iff_eq]
             try simp only [Bool.not_eq_eq_eq_not, Bool.not_true, Bool.not_false, decide_eq_true_eq, decide_eq_false_iff_not, beq_eq_false_iff_ne, beq_iff_eq, ne_eq] at *
             omega
           exact ⟨⟨k + 1, by omega, by go_num, UP.out hN, trivial⟩, by simp [intOf]; omega⟩)
    · obtain rfl : k = s.size := by omega
      have hall : s.data.toList.all nameC = true := by
        rw [List.all_eq_true]; intro x hx
        obtain ⟨j, hj, rfl⟩ := List.mem_iff_getElem.1 hx
        have hj' : j < s.size := by simpa using hj
        exact hz.out j hj' hj'
      have hsz := size_len s
      by_cases h0 : s.data.toList = []
      · have hx : isName s.data.toList = false := by rw [h0]; rfl
        have hs0 : s.size = 0 := by rw [← hsz, h0]; rfl
        have he : s.toList.isEmpty = true := by rw [Go.Lib.toList_data, h0]; rfl
        have HX := Lib.hid hx
        clear hx h0 hsz hall
        go_wp2
        go_ret
        exact ⟨by rw [HX.out]; rfl, rfl⟩
      · have he : s.toList.isEmpty = false := by rw [Go.Lib.toList_data]; simpa using h0
        have hx : isName s.data.toList = decide (s.size ≤ 40) := by
          have h1 : s.data.toList.isEmpty = false := by simpa using h0
          unfold isName; rw [hall, hsz, h1]; rfl
        have HX := Lib.hid hx
        clear hx h0 hsz hall
        have hd : decide ((s.size : Int) ≤ 40) = decide (s.size ≤ 40) := decide_eq_decide.2 (by omega)
        have HD := Lib.hid hd
        clear hd
        go_wp2
        go_ret
        exact ⟨by rw [HX.out, ← HD.out]; rfl, rfl⟩
end Go.Proofs.YtmbfenkmabdokaaGreatDoor

namespace Go.Proofs.YtmbfenkmabdokaaGreatDoor
open Go.RowKit Go.Mp

theorem tok_of_hex (l : Bytes) (h : l.length = 16) : isTok (hexB l) = true := by
  unfold isTok; rw [hexB_length, h, hexB_hex]; rfl
theorem take_all {α : Type} (p : α → Bool) (l : List α) (a : α) (r : List α) (h : ∀ x ∈ l, p x = true) (ha : p a = false) : (l ++ a :: r).takeWhile p = l := by
  induction l with
  | nil => simp [ha]
  | cons x l ih =>
    rw [List.cons_append, List.takeWhile_cons, h x (List.mem_cons_self ..)]
    simp only [if_true]
    rw [ih (fun y hy => h y (List.mem_cons_of_mem _ hy))]
theorem tok_ne46 {t : Bytes} (h : isTok t = true) : ∀ x ∈ t, (x != 46) = true := by
  unfold isTok at h
  simp only [Bool.and_eq_true] at h
  intro x hx
  have := List.all_eq_true.1 h.2 x hx
  rw [bne_iff_ne]
  rintro rfl
  revert this; decide
theorem tokOf_cookie (k t : Bytes) (h : isTok t = true) : tokOf (cookieB k t) = t := by
  unfold tokOf cookieB
  rw [List.append_assoc]
  exact take_all _ t 46 _ (tok_ne46 h) (by decide)
theorem tokenO_cookie (k t : Bytes) (h : isTok t = true) : tokenO k (cookieB k t) = some t := by
  unfold tokenO; rw [tokOf_cookie k t h, if_pos ⟨h, rfl⟩]

/-- Issue's seven questions: of n bytes drawn, of the token t, of what is handed in -/
def issueN (L : SL) (n : Nat) (t au : Bytes) (role ends quota at_ : Int) : Nat → Int
  | 0 => if true then 0 else 151
  | 1 => if decide (n = 16) then 0 else 1
  | 2 => if isName au then 0 else 171
  | 3 => if decide (1 ≤ role ∧ role ≤ 3) then 0 else 192
  | 4 => if (decide (0 ≤ ends ∧ ends ≤ 1125899906842624) && (decide (0 ≤ quota ∧ quota ≤ 1099511627776) && decide (0 ≤ at_ ∧ at_ ≤ 1125899906842624))) then 0 else 1
  | 5 => match getL L t with | none => 0 | some _ => 190
  | _ => if decide (L.length < 100) then 0 else 2
def issueC (L : SL) (n : Nat) (t au : Bytes) (role ends quota at_ : Int) : Int := firstN (issueN L n t au role ends quota at_) 7
def newS (au : ByteArray) (role ends quota at_ : Int) : Sess := ⟨au, role.toNat, ends.toNat, quota.toNat, 0, 20, at_.toNat⟩
theorem name_len {s : Bytes} (h : isName s = true) : s.length ≤ 40 := by
  unfold isName at h
  simp only [Bool.and_eq_true, decide_eq_true_eq] at h
  exact h.2.2
theorem issue_facts {L : SL} {n : Nat} {t : Bytes} {au : ByteArray} {role ends quota at_ : Int} (h : issueC L n t au.data.toList role ends quota at_ = 0) :
    n = 16 ∧ getL L t = none ∧ L.length < 100 ∧ (newS au role ends quota at_).Fine ∧ 1 ≤ role ∧ 0 ≤ ends ∧ 0 ≤ quota ∧ 0 ≤ at_ := by
  have h1 := firstN_all h 1 (by omega)
  have h2 := firstN_all h 2 (by omega)
  have h3 := firstN_all h 3 (by omega)
  have h4 := firstN_all h 4 (by omega)
  have h5 := firstN_all h 5 (by omega)
  have h6 := firstN_all h 6 (by omega)
  have e1 : n = 16 := by
    rcases Classical.em (n = 16) with hc | hc
    · exact hc
    · simp only [issueN, decide_eq_false hc] at h1; exact absurd h1 (by decide)
  have e2 : isName au.data.toList = true := by
    cases hc : isName au.data.toList
    · simp [issueN, hc] at h2
    · rfl
  have e3 : 1 ≤ role ∧ role ≤ 3 := by
    rcases Classical.em (1 ≤ role ∧ role ≤ 3) with hc | hc
    · exact hc
    · simp only [issueN, decide_eq_false hc] at h3; exact absurd h3 (by decide)
  have e4 : (decide (0 ≤ ends ∧ ends ≤ 1125899906842624) && (decide (0 ≤ quota ∧ quota ≤ 1099511627776) && decide (0 ≤ at_ ∧ at_ ≤ 1125899906842624))) = true := by
    rcases Bool.eq_false_or_eq_true (decide (0 ≤ ends ∧ ends ≤ 1125899906842624) && (decide (0 ≤ quota ∧ quota ≤ 1099511627776) && decide (0 ≤ at_ ∧ at_ ≤ 1125899906842624))) with hc | hc
    · exact hc
    · simp only [issueN, hc] at h4; exact absurd h4 (by decide)
  have e5 : getL L t = none := by
    cases hc : getL L t
    · rfl
    · simp [issueN, hc] at h5
  have e6 : L.length < 100 := by
    rcases Classical.em (L.length < 100) with hc | hc
    · exact hc
    · simp only [issueN, decide_eq_false hc] at h6; exact absurd h6 (by decide)
  simp only [Bool.and_eq_true, decide_eq_true_eq] at e4
  have hn := name_len e2
  have hs : au.size = au.data.toList.length := by rw [Array.length_toList]; rfl
  refine ⟨e1, e5, e6, ⟨?_, ?_, ?_, ?_, ?_, ?_, ?_⟩, e3.1, e4.1.1, e4.2.1.1, e4.2.2.1⟩
  · show role.toNat ≤ 3; omega
  · show ends.toNat ≤ _; omega
  · show quota.toNat ≤ _; omega
  · show 0 ≤ _; omega
  · show 20 ≤ 20; omega
  · show at_.toNat ≤ _; omega
  · show au.size ≤ 40; omega
end Go.Proofs.YtmbfenkmabdokaaGreatDoor

namespace Go.Proofs.YtmbfenkmabdokaaGreatDoor
open Go.RowKit Go.Mp

set_option maxRecDepth 100000 in
set_option maxHeartbeats 2000000 in
theorem Find_bad (w : World) (s t p b : Nat) (M : KV) (k c : ByteArray) (now : Int) (h : St w s t p b M) (hk : k.size ≤ 140737488355100) (hc : c.size ≤ 140737488355328) (ht : tokenO k.data.toList c.data.toList = none) :
    Calls Tryz.prog 17 #[.pointer (some ⟨s, 0, none⟩), .string k, .string c, .int .i64 now] w fun e w' => e = .returned (.tuple #[.agg zeroS, .int .i64 195]) ∧ Below w.heap.size w w' := by
  have hwz := heap_alloc_new w (.cells zeroS 36)
  have hb0 : Below w.heap.size w (w.alloc (.cells zeroS 36)) := (Below.refl _ _).alloc (Nat.le_refl _) _
  have hsz : w.heap.size < (w.alloc (.cells zeroS 36)).heap.size := by simp
  have cT := fun W => Token_ok W k c hk hc
  unfold tokenE at cT
  rw [ht] at cT
  have cD := Lib.hid (fun W hb => Dead_ok W s t p b M (h.below hb))
  have CT := Lib.hid cT; have HB0 := Lib.hid hb0; have HSZ := Lib.hid hsz; have HWZ := Lib.hid hwz
  clear h ht cT hb0 hsz hwz
  go_enter Tryz.func17, Tryz.ntmps17
  go_wp2_with fail
  refine (CT.out _).mono ?_
  rintro e w1 ⟨rfl, hb1⟩
  have hw1 := HB0.out.trans (hb1.mono HB0.out.size)
  have hz1 : w1.heap[w.heap.size]? = some (.cells zeroS 36 (0, 0)) := by rw [hb1.block _ HSZ.out]; exact HWZ.out
  have hfin := setRow_heap _ w.heap.size _ zeroS _ _ hz1
  have hfk := below_setRow hw1 (Nat.le_refl _) zeroS
  have HW1 := Lib.hid hw1; have HZ1 := Lib.hid hz1; have HFIN := Lib.hid hfin; have HFK := Lib.hid hfk
  clear hb1 hw1 hz1 hfin hfk
  dsimp only
  go_wp2_with fail
  refine (cD.out _ HW1.out).mono ?_
  rintro e w2 ⟨rfl, rfl⟩
  have hall : zeroS.all (·.oneCell') = true := by kernel_rfl
  dsimp only
  go_wp2_with first | (refine wpList_store_row rfl 36 _ _ rfl w.heap.size zeroS rfl rfl 36 _ HZ1.out hiS rfl hall ?_) | fail
  exact bodyPost_ret (v := .tuple #[.agg zeroS, .int .i64 195]) (results_cell_slot (p := 8) (q := 9) (ty := 36) rfl _ _ w.heap.size _ rfl _ rfl (run_loadVar_row _ w.heap.size 36 36 _ (0, 0) _ HFIN.out Tryz.underlying36 rfl hiS)) rfl ⟨rfl, HFK.out⟩

set_option maxRecDepth 100000 in
set_option maxHeartbeats 2000000 in
theorem Find_none (w : World) (s t p b : Nat) (M : KV) (k c : ByteArray) (now : Int) (tk : Bytes) (h : St w s t p b M) (hk : k.size ≤ 140737488355100) (hc : c.size ≤ 140737488355328) (ht : tokenO k.data.toList c.data.toList = some tk) (hi : isTok tk = true) (hg : getM M (bs (placeB tk)) = none) :
    Calls Tryz.prog 17 #[.pointer (some ⟨s, 0, none⟩), .string k, .string c, .int .i64 now] w fun e w' => e = .returned (.tuple #[.agg (zeroS), .int .i64 190]) ∧ Below w.heap.size w w' := by
  have hl := fun W hb => live_none W s t p b M tk now (h.below hb) hi hg
  have hwz := heap_alloc_new w (.cells zeroS 36)
  have hb0 : Below w.heap.size w (w.alloc (.cells zeroS 36)) := (Below.refl _ _).alloc (Nat.le_refl _) _
  have hsz : w.heap.size < (w.alloc (.cells zeroS 36)).heap.size := by simp
  have cT := fun W => Token_ok W k c hk hc
  unfold tokenE at cT
  rw [ht] at cT
  have cD := Lib.hid (fun W hb => Dead_ok W s t p b M (h.below hb))
  have CT := Lib.hid cT; have HB0 := Lib.hid hb0; have HSZ := Lib.hid hsz; have HWZ := Lib.hid hwz; have HL := Lib.hid hl
  clear h ht cT hb0 hsz hwz hl hg
  go_enter Tryz.func17, Tryz.ntmps17
  go_wp2_with fail
  refine (CT.out _).mono ?_
  rintro e w1 ⟨rfl, hb1⟩
  have hw1 := HB0.out.trans (hb1.mono HB0.out.size)
  have hz1 : w1.heap[w.heap.size]? = some (.cells zeroS 36 (0, 0)) := by rw [hb1.block _ HSZ.out]; exact HWZ.out
  have HW1 := Lib.hid hw1; have HZ1 := Lib.hid hz1
  clear hb1 hw1 hz1
  dsimp only
  go_wp2_with fail
  refine (cD.out _ HW1.out).mono ?_
  rintro e w2 ⟨rfl, rfl⟩
  dsimp only
  go_wp2_with fail
  refine (HL.out _ HW1.out).mono ?_
  rintro e w3 ⟨rfl, hb3⟩
  have hir : (Tryz.prog.info? 36).map (·.size) = some (zeroS).size := by kernel_rfl
  have hall : (zeroS).all (·.oneCell') = true := by kernel_rfl
  have hw3 := HW1.out.trans (hb3.mono HW1.out.size)
  have hz3 := heap_below HZ1.out hb3
  have hfin := setRow_heap _ w.heap.size _ (zeroS) _ _ hz3
  have hfk := below_setRow hw3 (Nat.le_refl _) (zeroS)
  have HZ3 := Lib.hid hz3; have HFIN := Lib.hid hfin; have HFK := Lib.hid hfk
  clear hb3 hw3 hz3 hfin hfk
  dsimp only
  go_wp2_with first | (refine wpList_store_row rfl 36 _ _ rfl w.heap.size (zeroS) rfl rfl 36 _ HZ3.out hir rfl hall ?_) | fail
  exact bodyPost_ret (v := .tuple #[.agg (zeroS), .int .i64 190]) (results_cell_slot (p := 8) (q := 9) (ty := 36) rfl _ _ w.heap.size _ rfl _ rfl (run_loadVar_row _ w.heap.size 36 36 _ (0, 0) _ HFIN.out Tryz.underlying36 rfl hir)) rfl ⟨rfl, HFK.out⟩

set_option maxRecDepth 100000 in
set_option maxHeartbeats 2000000 in
theorem Find_late (w : World) (s t p b : Nat) (M : KV) (k c : ByteArray) (now : Int) (tk : Bytes) (x : Sess) (h : St w s t p b M) (hk : k.size ≤ 140737488355100) (hc : c.size ≤ 140737488355328) (ht : tokenO k.data.toList c.data.toList = some tk) (hi : isTok tk = true) (hg : getM M (bs (placeB tk)) = some (bs x.enc)) (hx : x.Ok) (hn : (x.ends : Int) ≤ now) :
    Calls Tryz.prog 17 #[.pointer (some ⟨s, 0, none⟩), .string k, .string c, .int .i64 now] w fun e w' => e = .returned (.tuple #[.agg (zeroS), .int .i64 191]) ∧ Below w.heap.size w w' := by
  have hl := fun W hb => live_late W s t p b M tk now x (h.below hb) hi hg hx hn
  have hwz := heap_alloc_new w (.cells zeroS 36)
  have hb0 : Below w.heap.size w (w.alloc (.cells zeroS 36)) := (Below.refl _ _).alloc (Nat.le_refl _) _
  have hsz : w.heap.size < (w.alloc (.cells zeroS 36)).heap.size := by simp
  have cT := fun W => Token_ok W k c hk hc
  unfold tokenE at cT
  rw [ht] at cT
  have cD := Lib.hid (fun W hb => Dead_ok W s t p b M (h.below hb))
  have CT := Lib.hid cT; have HB0 := Lib.hid hb0; have HSZ := Lib.hid hsz; have HWZ := Lib.hid hwz; have HL := Lib.hid hl
  clear h ht cT hb0 hsz hwz hl hg hx hn
  go_enter Tryz.func17, Tryz.ntmps17
  go_wp2_with fail
  refine (CT.out _).mono ?_
  rintro e w1 ⟨rfl, hb1⟩
  have hw1 := HB0.out.trans (hb1.mono HB0.out.size)
  have hz1 : w1.heap[w.heap.size]? = some (.cells zeroS 36 (0, 0)) := by rw [hb1.block _ HSZ.out]; exact HWZ.out
  have HW1 := Lib.hid hw1; have HZ1 := Lib.hid hz1
  clear hb1 hw1 hz1
  dsimp only
  go_wp2_with fail
  refine (cD.out _ HW1.out).mono ?_
  rintro e w2 ⟨rfl, rfl⟩
  dsimp only
  go_wp2_with fail
  refine (HL.out _ HW1.out).mono ?_
  rintro e w3 ⟨rfl, hb3⟩
  have hir : (Tryz.prog.info? 36).map (·.size) = some (zeroS).size := by kernel_rfl
  have hall : (zeroS).all (·.oneCell') = true := by kernel_rfl
  have hw3 := HW1.out.trans (hb3.mono HW1.out.size)
  have hz3 := heap_below HZ1.out hb3
  have hfin := setRow_heap _ w.heap.size _ (zeroS) _ _ hz3
  have hfk := below_setRow hw3 (Nat.le_refl _) (zeroS)
  have HZ3 := Lib.hid hz3; have HFIN := Lib.hid hfin; have HFK := Lib.hid hfk
  clear hb3 hw3 hz3 hfin hfk
  dsimp only
  go_wp2_with first | (refine wpList_store_row rfl 36 _ _ rfl w.heap.size (zeroS) rfl rfl 36 _ HZ3.out hir rfl hall ?_) | fail
  exact bodyPost_ret (v := .tuple #[.agg (zeroS), .int .i64 191]) (results_cell_slot (p := 8) (q := 9) (ty := 36) rfl _ _ w.heap.size _ rfl _ rfl (run_loadVar_row _ w.heap.size 36 36 _ (0, 0) _ HFIN.out Tryz.underlying36 rfl hir)) rfl ⟨rfl, HFK.out⟩

set_option maxRecDepth 100000 in
set_option maxHeartbeats 2000000 in
theorem Find_some (w : World) (s t p b : Nat) (M : KV) (k c : ByteArray) (now : Int) (tk : Bytes) (x : Sess) (h : St w s t p b M) (hk : k.size ≤ 140737488355100) (hc : c.size ≤ 140737488355328) (ht : tokenO k.data.toList c.data.toList = some tk) (hi : isTok tk = true) (hg : getM M (bs (placeB tk)) = some (bs x.enc)) (hx : x.Ok) (hn : now < (x.ends : Int)) :
    Calls Tryz.prog 17 #[.pointer (some ⟨s, 0, none⟩), .string k, .string c, .int .i64 now] w fun e w' => e = .returned (.tuple #[.agg (sessC (bs tk) x), .int .i64 0]) ∧ Below w.heap.size w w' := by
  have hl := fun W hb => live_some W s t p b M tk now x (h.below hb) hi hg hx hn
  have hwz := heap_alloc_new w (.cells zeroS 36)
  have hb0 : Below w.heap.size w (w.alloc (.cells zeroS 36)) := (Below.refl _ _).alloc (Nat.le_refl _) _
  have hsz : w.heap.size < (w.alloc (.cells zeroS 36)).heap.size := by simp
  have cT := fun W => Token_ok W k c hk hc
  unfold tokenE at cT
  rw [ht] at cT
  have cD := Lib.hid (fun W hb => Dead_ok W s t p b M (h.below hb))
  have CT := Lib.hid cT; have HB0 := Lib.hid hb0; have HSZ := Lib.hid hsz; have HWZ := Lib.hid hwz; have HL := Lib.hid hl
  clear h ht cT hb0 hsz hwz hl hg hx hn
  go_enter Tryz.func17, Tryz.ntmps17
  go_wp2_with fail
  refine (CT.out _).mono ?_
  rintro e w1 ⟨rfl, hb1⟩
  have hw1 := HB0.out.trans (hb1.mono HB0.out.size)
  have hz1 : w1.heap[w.heap.size]? = some (.cells zeroS 36 (0, 0)) := by rw [hb1.block _ HSZ.out]; exact HWZ.out
  have HW1 := Lib.hid hw1; have HZ1 := Lib.hid hz1
  clear hb1 hw1 hz1
  dsimp only
  go_wp2_with fail
  refine (cD.out _ HW1.out).mono ?_
  rintro e w2 ⟨rfl, rfl⟩
  dsimp only
  go_wp2_with fail
  refine (HL.out _ HW1.out).mono ?_
  rintro e w3 ⟨rfl, hb3⟩
  have hir : (Tryz.prog.info? 36).map (·.size) = some (sessC (bs tk) x).size := by kernel_rfl
  have hall : (sessC (bs tk) x).all (·.oneCell') = true := by kernel_rfl
  have hw3 := HW1.out.trans (hb3.mono HW1.out.size)
  have hz3 := heap_below HZ1.out hb3
  have hfin := setRow_heap _ w.heap.size _ (sessC (bs tk) x) _ _ hz3
  have hfk := below_setRow hw3 (Nat.le_refl _) (sessC (bs tk) x)
  have HZ3 := Lib.hid hz3; have HFIN := Lib.hid hfin; have HFK := Lib.hid hfk
  clear hb3 hw3 hz3 hfin hfk
  dsimp only
  go_wp2_with first | (refine wpList_store_row rfl 36 _ _ rfl w.heap.size (sessC (bs tk) x) rfl rfl 36 _ HZ3.out hir rfl hall ?_) | fail
  exact bodyPost_ret (v := .tuple #[.agg (sessC (bs tk) x), .int .i64 0]) (results_cell_slot (p := 8) (q := 9) (ty := 36) rfl _ _ w.heap.size _ rfl _ rfl (run_loadVar_row _ w.heap.size 36 36 _ (0, 0) _ HFIN.out Tryz.underlying36 rfl hir)) rfl ⟨rfl, HFK.out⟩

end Go.Proofs.YtmbfenkmabdokaaGreatDoor
