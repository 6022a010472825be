/- Parts of the proof: Roles. -/
import Derived.Test.YtmbfenkmabdokaaGreatDoorR26
import Derived.Test.YtmbfenkmabdokaaGreatDoorR04
set_option linter.all false
namespace Go.Proofs.YtmbfenkmabdokaaGreatDoor
open Go.RowKit Go.Mp

def dr0 : Bytes := [0, 0, 0, 0, 0, 0, 0, 0, 0, 0, 0, 0, 0, 0, 0, 0]
def tk0 : Bytes := hexB dr0
theorem tok0 : isTok tk0 = true := tok_of_hex dr0 rfl
theorem mk_draw (w : World) : (Instr.makeSlice 26 (.int .i64 16) (.int .i64 16)).run Tryz.prog w = .ok (.slice (some ⟨w.heap.size, 0, none⟩) 16 16) (w.alloc (.cells (bcs dr0).toArray 5)) := by
  have := run_make_row' (P := Tryz.prog) 26 5 (.int .u8 0) 1 Tryz.underlying26 info_u8 rfl .i64 .i64 16 (by omega) (by omega) w
  rw [show madeCells #[.int .u8 0] 16 = (bcs dr0).toArray by kernel_rfl] at this
  exact this
def roleS (role : Int) : Sess := newS ⟨#[97, 110, 110]⟩ role 10 5 0
theorem roR {role : Int} (h : 1 ≤ role ∧ role ≤ 3) : issueR [] dr0 ⟨#[97, 110, 110]⟩ role 10 5 0 = 0 := by
  obtain rfl | rfl | rfl : role = 1 ∨ role = 2 ∨ role = 3 := by omega
  · kernel_rfl
  · kernel_rfl
  · kernel_rfl
theorem roN {role : Int} (h : ¬ (1 ≤ role ∧ role ≤ 3)) : issueR [] dr0 ⟨#[97, 110, 110]⟩ role 10 5 0 = 192 := by
  unfold issueR issueC
  have h3 : issueN [] dr0.length (hexB dr0) (⟨#[97, 110, 110]⟩ : ByteArray).data.toList role 10 5 0 3 = 192 := by
    show (if decide (1 ≤ role ∧ role ≤ 3) then 0 else 192) = (192 : Int)
    rw [decide_eq_false h]; rfl
  rw [firstN_at (k := 3) (by omega) ?_ (by rw [h3]; decide), h3]
  intro j hj
  obtain rfl | rfl | rfl : j = 0 ∨ j = 1 ∨ j = 2 := by omega
  · rfl
  · rfl
  · show (if isName (⟨#[97, 110, 110]⟩ : ByteArray).data.toList then 0 else 171) = (0 : Int)
    rw [show isName (⟨#[97, 110, 110]⟩ : ByteArray).data.toList = true by kernel_rfl]; rfl
theorem roE {role : Int} (h : 1 ≤ role ∧ role ≤ 3) (k : ByteArray) : issueE [] k dr0 ⟨#[97, 110, 110]⟩ role 10 5 0 = #[.string (bs (cookieB k.data.toList tk0)), .int .i64 0] := by unfold issueE; rw [roR h]; rfl
theorem roS {role : Int} (h : 1 ≤ role ∧ role ≤ 3) : issueS [] dr0 ⟨#[97, 110, 110]⟩ role 10 5 0 = [(tk0, roleS role)] := by unfold issueS; rw [roR h]; rfl
theorem roEN {role : Int} (h : ¬ (1 ≤ role ∧ role ≤ 3)) (k : ByteArray) : issueE [] k dr0 ⟨#[97, 110, 110]⟩ role 10 5 0 = #[.string ⟨#[]⟩, .int .i64 192] := by unfold issueE; rw [roN h]; rfl
theorem roSN {role : Int} (h : ¬ (1 ≤ role ∧ role ≤ 3)) : issueS [] dr0 ⟨#[97, 110, 110]⟩ role 10 5 0 = [] := by unfold issueS; rw [roN h]; rfl
theorem roSp {role asked : Int} (h : 1 ≤ role ∧ role ≤ 3) : spendR [(tk0, roleS role)] tk0 9 1 asked = if 1 ≤ asked ∧ asked ≤ role then 0 else 192 := by
  rw [spendR_live _ _ _ _ _ _ tok0 (getL_one _ _) (by show (9 : Int) < ((10 : Nat) : Int); decide)]
  have hr : ((roleS role).role : Int) = role := by show ((role.toNat : Nat) : Int) = role; omega
  have h0 : spendN (roleS role) 9 1 asked 0 = 0 := by kernel_rfl
  have h2 : spendN (roleS role) 9 1 asked 2 = 0 := by kernel_rfl
  have h3 : spendN (roleS role) 9 1 asked 3 = 0 := by kernel_rfl
  by_cases hm : 1 ≤ asked ∧ asked ≤ role
  · have h1 : spendN (roleS role) 9 1 asked 1 = 0 := by
      simp only [spendN, codeR, hr]; rw [decide_eq_true hm.1, decide_eq_true hm.2]; rfl
    rw [if_pos hm]
    refine firstN_zero fun j hj => ?_
    obtain rfl | rfl | rfl | rfl : j = 0 ∨ j = 1 ∨ j = 2 ∨ j = 3 := by omega
    · exact h0
    · exact h1
    · exact h2
    · exact h3
  · have h1 : spendN (roleS role) 9 1 asked 1 = 192 := by
      simp only [spendN, codeR, hr]
      rw [if_neg]
      simp only [Bool.and_eq_true, decide_eq_true_eq]; exact hm
    rw [if_neg hm]
    show firstN _ 4 = 192
    rw [firstN_at (k := 1) (by omega) ?_ (by rw [h1]; decide), h1]
    intro j hj
    obtain rfl : j = 0 := by omega
    exact h0

set_option maxRecDepth 100000 in
set_option maxHeartbeats 4000000 in
theorem Roles_ok (w : World) (r a : Int) (hE : EnvN w) (hr : -9223372036854775808 ≤ r ∧ r ≤ 9223372036854775807) :
    Calls Tryz.prog 7 #[.int .i64 r, .int .i64 a] w fun e w' => e = .returned (.bool true) ∧ Below w.heap.size w w' := by
  have cW := Lib.hid (awake_ok w hE)
  have HE := Lib.hid hE; have HR := Lib.hid hr
  clear hE hr
  have hi8 : (Tryz.prog.info? 36).map (·.size) = some (sessC (bs tk0) (roleS r)).size := by kernel_rfl
  have hall8 : (sessC (bs tk0) (roleS r)).all (·.oneCell') = true := by kernel_rfl
  have hm := mk_draw
  go_enter Tryz.func7, Tryz.ntmps7
  go_wp2_with fail
  refine cW.out.mono ?_
  rintro e w0 ⟨rfl, hb0⟩
  have HB0 := Lib.hid hb0
  have cF := Lib.hid (Fresh_ok w0 200 (by omega) (by omega) (HE.out.below hb0))
  clear hb0
  dsimp only
  go_wp2_with fail
  refine cF.out.mono ?_
  rintro e w1 ⟨h, s, t, p, b, rfl, hst, hb1, hs, hb⟩
  have hss : Ss w1 s t p b [] := ⟨hst, SOk.nil⟩
  have HSS := Lib.hid hss; have HB1 := Lib.hid (HB0.out.trans (hb1.mono HB0.out.size)); have HB := Lib.hid (Nat.le_trans HB0.out.size hb)
  have hlb : b < w1.heap.size := hst.lb
  clear hst hss hb1 hs hb
  dsimp only
  go_wp2_with fail
  have hb2 : Below w1.heap.size w1 (w1.alloc (.cells (bcs dr0).toArray 5)) := (Below.refl _ _).alloc (Nat.le_refl _) _
  have bd2 := heap_alloc_new w1 (.cells (bcs dr0).toArray 5)
  generalize w1.alloc (.cells (bcs dr0).toArray 5) = W2 at *
  have cI := Issue_L W2 s t p b [] ⟨#[107]⟩ (some ⟨w1.heap.size, 0, none⟩) 16 dr0 ⟨#[]⟩ ⟨#[97, 110, 110]⟩ r 10 5 0 0 0 (HSS.out.below hb2) (by simp) (rd_row bd2 rfl) (by decide) (by decide) (by decide) HR.out
  rw [show dr0.length = 16 from rfl] at cI
  have HB2 := Lib.hid (HB1.out.trans (hb2.mono HB1.out.size))
  clear hb2 bd2
  by_cases h1 : 1 ≤ r
  · by_cases h2 : r ≤ 3
    · rw [roE ⟨h1, h2⟩, roS ⟨h1, h2⟩] at cI
      refine cI.mono ?_
      rintro e w3 ⟨rfl, hs3, hk3⟩
      have cc73 := cookie_size [107] tk0 tok0
      have hcc : (⟨#[107]⟩ : ByteArray).data.toList = [107] := rfl
      rw [hcc]
      have HB3 := Lib.hid (below_kp HB2.out hk3 HB.out (Nat.le_refl _)); have HS3 := Lib.hid hs3
      clear hs3 hk3 cI hcc
      dsimp only
      go_wp2_with fail
      refine (Find_L w3 s t p b [(tk0, roleS r)] ⟨#[107]⟩ (bs (cookieB [107] tk0)) 9 HS3.out (by decide) (by rw [cc73]; decide)).mono ?_
      rintro e w5 ⟨rfl, hb5⟩
      rw [show findR [(tk0, roleS r)] (⟨#[107]⟩ : ByteArray).data.toList (bs (cookieB [107] tk0)).data.toList 9 = (sessC (bs tk0) (roleS r), 0) from findR_cookie _ _ _ _ _ tok0 (getL_one _ _) (by show (9 : Int) < ((10 : Nat) : Int); decide)]
      have b5 := HB3.out.trans (hb5.mono HB3.out.size)
      have s5 := HS3.out.below hb5
      have hn5 := heap_alloc_new w5 (.cells zeroS 36)
      have hb6 : Below w5.heap.size w5 ((w5.alloc (.cells #[.string ⟨#[]⟩, .string ⟨#[]⟩, .int .i64 0, .int .i64 0, .int .i64 0, .int .i64 0, .int .i64 0, .int .i64 0] 36)).setRow w5.heap.size (sessC (bs tk0) (roleS r))) := below_setRow ((Below.refl _ _).alloc (Nat.le_refl _) _) (Nat.le_refl _) _
      have hr6 : ((w5.alloc (.cells #[.string ⟨#[]⟩, .string ⟨#[]⟩, .int .i64 0, .int .i64 0, .int .i64 0, .int .i64 0, .int .i64 0, .int .i64 0] 36)).setRow w5.heap.size (sessC (bs tk0) (roleS r))).heap[w5.heap.size]? = some (.cells (sessC (bs tk0) (roleS r)) 36 (0, 0)) := setRow_heap _ _ _ _ _ _ hn5
      generalize hX6 : ((w5.alloc (.cells #[.string ⟨#[]⟩, .string ⟨#[]⟩, .int .i64 0, .int .i64 0, .int .i64 0, .int .i64 0, .int .i64 0, .int .i64 0] 36)).setRow w5.heap.size (sessC (bs tk0) (roleS r))) = w6 at hb6 hr6
      have b6 := b5.trans (hb6.mono b5.size)
      have s6 := s5.below hb6
      have c60 : w6.cell? ⟨w5.heap.size, 0, none⟩ = some (.string (bs tk0)) := by rw [World.cell?]; simp only [hr6]; rfl
      have HN5 := Lib.hid hn5; have HX6 := Lib.hid hX6; have HB6 := Lib.hid b6; have HS6 := Lib.hid s6
      clear hb5 b5 s5 hn5 hb6 hX6 b6 s6 hr6
      dsimp only
      go_wp2_with first | (refine wpList_store_row rfl 36 _ _ rfl w5.heap.size (sessC (bs tk0) (roleS r)) rfl rfl 36 _ HN5.out hi8 rfl hall8 ?_; rw [HX6.out]) | fail
      have htz : (bs tk0).size ≤ 9223372036854775807 := by rw [bs_size, tok_len tk0 tok0]; decide
      have cS := Spend_L w6 s t p b [(tk0, roleS r)] (bs tk0) 9 1 a HS6.out htz
      rw [bs_list, roSp ⟨h1, h2⟩] at cS
      by_cases h3 : 1 ≤ a
      · by_cases h4 : a ≤ r
        · rw [if_pos ⟨h3, h4⟩] at cS
          refine cS.mono ?_
          rintro e w7 ⟨rfl, hs7, hk7⟩
          have HB7 := Lib.hid (below_kp HB6.out hk7 HB.out (Nat.le_refl _))
          clear hs7 hk7 cS c60
          dsimp only
          go_wp2_with fail
          go_ret
          exact ⟨rfl, HB7.out⟩
        · rw [if_neg (fun h => h4 h.2)] at cS
          refine cS.mono ?_
          rintro e w7 ⟨rfl, hs7, hk7⟩
          have HB7 := Lib.hid (below_kp HB6.out hk7 HB.out (Nat.le_refl _))
          clear hs7 hk7 cS c60
          dsimp only
          go_wp2_with fail
          go_ret
          exact ⟨rfl, HB7.out⟩
      · rw [if_neg (fun h => h3 h.1)] at cS
        refine cS.mono ?_
        rintro e w7 ⟨rfl, hs7, hk7⟩
        have HB7 := Lib.hid (below_kp HB6.out hk7 HB.out (Nat.le_refl _))
        clear hs7 hk7 cS c60
        dsimp only
        go_wp2_with fail
        go_ret
        exact ⟨rfl, HB7.out⟩
    · rw [roEN (fun h => h2 h.2), roSN (fun h => h2 h.2)] at cI
      refine cI.mono ?_
      rintro e w3 ⟨rfl, hs3, hk3⟩
      have HB3 := Lib.hid (below_kp HB2.out hk3 HB.out (Nat.le_refl _)); have HS3 := Lib.hid hs3
      clear hs3 hk3 cI
      dsimp only
      go_wp2_with fail
      refine (SAll_ok w3 s t p b [] HS3.out (by simp)).mono ?_
      rintro e w4 ⟨v, l, rfl, hp, how, hb4⟩
      have hl : l = [] := List.perm_nil.1 hp
      subst hl
      obtain ⟨A, c, rfl⟩ := own_form3 how
      have HB4 := Lib.hid (HB3.out.trans (hb4.mono HB3.out.size))
      clear hp how hb4
      dsimp only
      go_wp2_with fail
      go_ret
      exact ⟨rfl, HB4.out⟩
  · rw [roEN (fun h => h1 h.1), roSN (fun h => h1 h.1)] at cI
    refine cI.mono ?_
    rintro e w3 ⟨rfl, hs3, hk3⟩
    have HB3 := Lib.hid (below_kp HB2.out hk3 HB.out (Nat.le_refl _)); have HS3 := Lib.hid hs3
    clear hs3 hk3 cI
    dsimp only
    go_wp2_with fail
    refine (SAll_ok w3 s t p b [] HS3.out (by simp)).mono ?_
    rintro e w4 ⟨v, l, rfl, hp, how, hb4⟩
    have hl : l = [] := List.perm_nil.1 hp
    subst hl
    obtain ⟨A, c, rfl⟩ := own_form3 how
    have HB4 := Lib.hid (HB3.out.trans (hb4.mono HB3.out.size))
    clear hp how hb4
    dsimp only
    go_wp2_with fail
    go_ret
    exact ⟨rfl, HB4.out⟩
end Go.Proofs.YtmbfenkmabdokaaGreatDoor
