/- Parts of the proof: Awake. -/
import Derived.Test.YtmbfenkmabdokaaGreatDoorR23
import Derived.Test.YtmbfenkmabdokaaGreatDoorR25
set_option linter.all false
namespace Go.Proofs.YtmbfenkmabdokaaGreatDoor
open Go.RowKit Go.Mp

def dr1 : Bytes := [1, 1, 1, 1, 1, 1, 1, 1, 1, 1, 1, 1, 1, 1, 1, 1]
def tk1 : Bytes := hexB dr1
def x1 : Sess := newS ⟨#[97, 110, 110]⟩ 2 1000 50 0
def x2 : Sess := x1.spend 10 50
theorem rd_row {W : World} {g : Nat} {l : Bytes} {cs : Array Value} {ty : TypeId} {fr : Nat × Nat} (h : W.heap[g]? = some (.cells cs ty fr)) (hc : cs.toList = bcs l) : RdB W (some ⟨g, 0, none⟩) l := by
  refine .inr ⟨g, 0, rfl, fun i hi => ?_⟩
  rw [Nat.zero_add, World.cell?]
  simp only [h]
  show cs[i]? = _
  rw [← Array.getElem?_toList, hc, bcs, List.getElem?_map, List.getElem?_eq_getElem hi]
  rfl
theorem tok1 : isTok tk1 = true := tok_of_hex dr1 rfl
theorem iss1R : issueR [] dr1 ⟨#[97, 110, 110]⟩ 2 1000 50 0 = 0 := by kernel_rfl
theorem iss1E (k : ByteArray) : issueE [] k dr1 ⟨#[97, 110, 110]⟩ 2 1000 50 0 = #[.string (bs (cookieB k.data.toList tk1)), .int .i64 0] := by unfold issueE; rw [iss1R]; rfl
theorem iss1S : issueS [] dr1 ⟨#[97, 110, 110]⟩ 2 1000 50 0 = [(tk1, x1)] := by unfold issueS; rw [iss1R]; rfl
theorem iss2R : issueR [(tk1, x1)] dr1 ⟨#[97, 110, 110]⟩ 2 1000 50 0 = 190 := by kernel_rfl
theorem iss2E (k : ByteArray) : issueE [(tk1, x1)] k dr1 ⟨#[97, 110, 110]⟩ 2 1000 50 0 = #[.string ⟨#[]⟩, .int .i64 190] := by unfold issueE; rw [iss2R]; rfl
theorem iss2S : issueS [(tk1, x1)] dr1 ⟨#[97, 110, 110]⟩ 2 1000 50 0 = [(tk1, x1)] := by unfold issueS; rw [iss2R]; rfl
theorem sp1R : spendR [(tk1, x1)] tk1 10 50 2 = 0 := by rw [spendR_live _ _ _ _ _ _ tok1 (getL_one _ _) (by decide)]; kernel_rfl
theorem sp1S : spendS [(tk1, x1)] tk1 10 50 2 = [(tk1, x2)] := by unfold spendS; rw [if_pos sp1R, getL_one]; exact putL_one _ _ _
theorem sp2R : spendR [(tk1, x2)] tk1 10 1 2 = 193 := by rw [spendR_live _ _ _ _ _ _ tok1 (getL_one _ _) (by decide)]; kernel_rfl
theorem sp2S : spendS [(tk1, x2)] tk1 10 1 2 = [(tk1, x2)] := by unfold spendS; rw [if_neg (by rw [sp2R]; decide)]
theorem auth2 {l : SL} (h : l.Perm [(tk1, x2)]) : authV 1000 l = [.string ⟨#[97, 110, 110]⟩] := by rw [List.perm_singleton.1 h]; rfl

set_option maxRecDepth 100000 in
set_option maxHeartbeats 4000000 in
theorem awake_ok (w : World) (hE : EnvN w) : Calls Tryz.prog 9 #[] w fun e w' => e = .returned (.bool true) ∧ Below w.heap.size w w' := by
  have cF := Lib.hid (Fresh_ok w 200 (by omega) (by omega) hE)
  clear hE
  have hi8 : (Tryz.prog.info? 36).map (·.size) = some (sessC (bs tk1) x1).size := by kernel_rfl
  have hall8 : (sessC (bs tk1) x1).all (·.oneCell') = true := by kernel_rfl
  have hiz : (Tryz.prog.info? 36).map (·.size) = some zeroS.size := by kernel_rfl
  have hallz : zeroS.all (·.oneCell') = true := by kernel_rfl
  have hix : (Tryz.prog.info? 36).map (·.size) = some (#[.string ⟨#[]⟩, .string ⟨#[97, 110, 110]⟩, .int .i64 2, .int .i64 1000, .int .i64 50, .int .i64 0, .int .i64 0, .int .i64 0] : Array Value).size := by kernel_rfl
  go_enter Tryz.func9, Tryz.ntmps9
  go_wp2_with fail
  refine cF.out.mono ?_
  rintro e w1 ⟨h, s, t, p, b, rfl, hst, hb1, hs, hb⟩
  have hss : Ss w1 s t p b [] := ⟨hst, SOk.nil⟩
  have HSS := Lib.hid hss; have HB1 := Lib.hid hb1; have HB := Lib.hid hb
  have hlb : b < w1.heap.size := hst.lb
  clear hst hss hb1 hs hb
  dsimp only
  go_wp2_with fail
  obtain ⟨W2, hW2⟩ : ∃ W2, W2 = (w1.alloc (.cells #[.int .u8 1, .int .u8 1, .int .u8 1, .int .u8 1, .int .u8 1, .int .u8 1, .int .u8 1, .int .u8 1, .int .u8 1, .int .u8 1, .int .u8 1, .int .u8 1, .int .u8 1, .int .u8 1, .int .u8 1, .int .u8 1] 5)).alloc (.cells #[.string ⟨#[]⟩, .string ⟨#[97, 110, 110]⟩, .int .i64 2, .int .i64 1000, .int .i64 50, .int .i64 0, .int .i64 0, .int .i64 0] 36) := ⟨_, rfl⟩
  have hb2 : Below w1.heap.size w1 W2 := by rw [hW2]; exact ((Below.refl _ _).alloc (Nat.le_refl _) _).alloc (by simp) _
  have bd2 : W2.heap[w1.heap.size]? = some (.cells #[.int .u8 1, .int .u8 1, .int .u8 1, .int .u8 1, .int .u8 1, .int .u8 1, .int .u8 1, .int .u8 1, .int .u8 1, .int .u8 1, .int .u8 1, .int .u8 1, .int .u8 1, .int .u8 1, .int .u8 1, .int .u8 1] 5 (0, 0)) := by rw [hW2]; exact two_a _ _ _
  have bx2 : W2.heap[w1.heap.size + 1]? = some (.cells #[.string ⟨#[]⟩, .string ⟨#[97, 110, 110]⟩, .int .i64 2, .int .i64 1000, .int .i64 50, .int .i64 0, .int .i64 0, .int .i64 0] 36 (0, 0)) := by rw [hW2]; exact two_b _ _ _
  rw [← hW2]
  clear hW2
  have cI := Issue_L W2 s t p b [] ⟨#[107]⟩ (some ⟨w1.heap.size, 0, none⟩) 16 dr1 ⟨#[]⟩ ⟨#[97, 110, 110]⟩ 2 1000 50 0 0 0 (HSS.out.below hb2) (by simp) (rd_row bd2 rfl) (by decide) (by decide) (by decide) (by decide)
  rw [iss1E, iss1S, show dr1.length = 16 from rfl] at cI
  have HB2 := Lib.hid (HB1.out.trans (hb2.mono HB1.out.size)); have BD2 := Lib.hid bd2; have BX2 := Lib.hid bx2
  have nd : w1.heap.size ≠ b := by omega
  have nx : w1.heap.size + 1 ≠ b := by omega
  clear hb2 bd2 bx2
  refine cI.mono ?_
  rintro e w3 ⟨rfl, hs3, hk3⟩
  have bd3 := heap_kp0 BD2.out hk3 nd
  have bx3 := heap_kp0 BX2.out hk3 nx
  have cc73 := cookie_size [107] tk1 tok1
  have hcc : (⟨#[107]⟩ : ByteArray).data.toList = [107] := rfl
  rw [hcc]
  have HB3 := Lib.hid (below_kp HB2.out hk3 HB.out (Nat.le_refl _)); have HS3 := Lib.hid hs3; have BD3 := Lib.hid bd3; have BX3 := Lib.hid bx3
  clear hs3 hk3 bd3 bx3 cI hcc
  dsimp only
  go_wp2_with first | (refine wpList_load_row rfl 36 _ rfl (w1.heap.size + 1) rfl _ #[.string ⟨#[]⟩, .string ⟨#[97, 110, 110]⟩, .int .i64 2, .int .i64 1000, .int .i64 50, .int .i64 0, .int .i64 0, .int .i64 0] _ _ BX3.out Tryz.underlying36 rfl hix ?_) | fail
  have cI := Issue_L w3 s t p b [(tk1, x1)] ⟨#[107]⟩ (some ⟨w1.heap.size, 0, none⟩) 16 dr1 ⟨#[]⟩ ⟨#[97, 110, 110]⟩ 2 1000 50 0 0 0 HS3.out (by simp) (rd_row BD3.out rfl) (by decide) (by decide) (by decide) (by decide)
  rw [iss2E, iss2S, show dr1.length = 16 from rfl] at cI
  refine cI.mono ?_
  rintro e w4 ⟨rfl, hs4, hk4⟩
  have HB4 := Lib.hid (below_kp HB3.out hk4 HB.out (Nat.le_refl _)); have HS4 := Lib.hid hs4
  clear hs4 hk4 cI
  dsimp only
  go_wp2_with fail
  refine (Find_L w4 s t p b [(tk1, x1)] ⟨#[107]⟩ (bs (cookieB [107] tk1)) 999 HS4.out (by decide) (by rw [cc73]; decide)).mono ?_
  rintro e w5 ⟨rfl, hb5⟩
  rw [show findR [(tk1, x1)] (⟨#[107]⟩ : ByteArray).data.toList (bs (cookieB [107] tk1)).data.toList 999 = (sessC (bs tk1) x1, 0) from findR_cookie _ _ _ _ _ tok1 (getL_one _ _) (by decide)]
  have b5 := HB4.out.trans (hb5.mono HB4.out.size)
  have s5 := HS4.out.below hb5
  have hn5 := heap_alloc_new w5 (.cells zeroS 36)
  have hb6 : Below w5.heap.size w5 ((w5.alloc (.cells #[.string ⟨#[]⟩, .string ⟨#[]⟩, .int .i64 0, .int .i64 0, .int .i64 0, .int .i64 0, .int .i64 0, .int .i64 0] 36)).setRow w5.heap.size (sessC (bs tk1) x1)) := below_setRow ((Below.refl _ _).alloc (Nat.le_refl _) _) (Nat.le_refl _) _
  have hr6 : ((w5.alloc (.cells #[.string ⟨#[]⟩, .string ⟨#[]⟩, .int .i64 0, .int .i64 0, .int .i64 0, .int .i64 0, .int .i64 0, .int .i64 0] 36)).setRow w5.heap.size (sessC (bs tk1) x1)).heap[w5.heap.size]? = some (.cells (sessC (bs tk1) x1) 36 (0, 0)) := setRow_heap _ _ _ _ _ _ hn5
  have hlb5 : b < w5.heap.size := s5.st.lb
  generalize hX6 : ((w5.alloc (.cells #[.string ⟨#[]⟩, .string ⟨#[]⟩, .int .i64 0, .int .i64 0, .int .i64 0, .int .i64 0, .int .i64 0, .int .i64 0] 36)).setRow w5.heap.size (sessC (bs tk1) x1)) = w6 at hb6 hr6
  have b6 := b5.trans (hb6.mono b5.size)
  have s6 := s5.below hb6
  have HN5 := Lib.hid hn5; have HX6 := Lib.hid hX6; have HB6 := Lib.hid b6; have HS6 := Lib.hid s6; have HR6 := Lib.hid hr6
  clear hb5 b5 s5 hn5 hb6 hX6 b6 s6 hr6
  dsimp only
  go_wp2_with first | (refine wpList_store_row rfl 36 _ _ rfl w5.heap.size (sessC (bs tk1) x1) rfl rfl 36 _ HN5.out hi8 rfl hall8 ?_; rw [HX6.out]) | fail
  refine (Find_L w6 s t p b [(tk1, x1)] ⟨#[107]⟩ (bs (cookieB [107] tk1)) 1000 HS6.out (by decide) (by rw [cc73]; decide)).mono ?_
  rintro e w7 ⟨rfl, hb7⟩
  rw [show findR [(tk1, x1)] (⟨#[107]⟩ : ByteArray).data.toList (bs (cookieB [107] tk1)).data.toList 1000 = (zeroS, 191) from findR_late _ _ _ _ _ tok1 (getL_one _ _) (by decide)]
  have b7 := HB6.out.trans (hb7.mono HB6.out.size)
  have s7 := HS6.out.below hb7
  have hr7 := heap_below HR6.out hb7
  have hn7 := heap_alloc_new w7 (.cells zeroS 36)
  have hb8 : Below w7.heap.size w7 ((w7.alloc (.cells #[.string ⟨#[]⟩, .string ⟨#[]⟩, .int .i64 0, .int .i64 0, .int .i64 0, .int .i64 0, .int .i64 0, .int .i64 0] 36)).setRow w7.heap.size zeroS) := below_setRow ((Below.refl _ _).alloc (Nat.le_refl _) _) (Nat.le_refl _) _
  generalize hX8 : ((w7.alloc (.cells #[.string ⟨#[]⟩, .string ⟨#[]⟩, .int .i64 0, .int .i64 0, .int .i64 0, .int .i64 0, .int .i64 0, .int .i64 0] 36)).setRow w7.heap.size zeroS) = w8 at hb8
  have b8 := b7.trans (hb8.mono b7.size)
  have s8 := s7.below hb8
  have hr8 := heap_below hr7 hb8
  have c80 : w8.cell? ⟨w5.heap.size, 0, none⟩ = some (.string (bs tk1)) := by rw [World.cell?]; simp only [hr8]; rfl
  have HN7 := Lib.hid hn7; have HX8 := Lib.hid hX8; have HB8 := Lib.hid b8; have HS8 := Lib.hid s8; have HR8 := Lib.hid hr8
  clear hb7 b7 s7 hn7 hb8 hX8 b8 s8 hr7 hr8
  dsimp only
  go_wp2_with first | (refine wpList_store_row rfl 36 _ _ rfl w7.heap.size zeroS rfl rfl 36 _ HN7.out hiz rfl hallz ?_; rw [HX8.out]) | fail
  have htz : (bs tk1).size ≤ 9223372036854775807 := by rw [bs_size, tok_len tk1 tok1]; decide
  have cS := Spend_L w8 s t p b [(tk1, x1)] (bs tk1) 10 50 2 HS8.out htz
  rw [bs_list, sp1R, sp1S] at cS
  refine cS.mono ?_
  rintro e w9 ⟨rfl, hs9, hk9⟩
  have nb5 : w5.heap.size ≠ b := by omega
  have hr9 := heap_kp0 HR8.out hk9 nb5
  have c90 : w9.cell? ⟨w5.heap.size, 0, none⟩ = some (.string (bs tk1)) := by rw [World.cell?]; simp only [hr9]; rfl
  have HB9 := Lib.hid (below_kp HB8.out hk9 HB.out (Nat.le_refl _)); have HS9 := Lib.hid hs9; have HR9 := Lib.hid hr9
  clear hs9 hk9 hr9 cS c80
  dsimp only
  go_wp2_with fail
  have cS := Spend_L w9 s t p b [(tk1, x2)] (bs tk1) 10 1 2 HS9.out htz
  rw [bs_list, sp2R, sp2S] at cS
  refine cS.mono ?_
  rintro e w10 ⟨rfl, hs10, hk10⟩
  have hr10 := heap_kp0 HR9.out hk10 nb5
  have HB10 := Lib.hid (below_kp HB9.out hk10 HB.out (Nat.le_refl _)); have HS10 := Lib.hid hs10; have HR10 := Lib.hid hr10
  clear hs10 hk10 hr10 cS c90
  dsimp only
  go_wp2_with fail
  refine (Expire_L w10 s t p b [(tk1, x2)] 1000 HS10.out (by simp)).mono ?_
  rintro e w11 ⟨v, l, rfl, hp, how, hs11, hk11⟩
  rw [auth2 hp] at how
  obtain ⟨A, c, rfl⟩ := own_form3 how
  obtain ⟨g, rfl⟩ : ∃ g, A = some ⟨g, 0, none⟩ := by
    rcases how.2 with ⟨_, h0⟩ | ⟨g, cap, cur, h0, _⟩
    · simp at h0
    · injection h0 with hA; exact ⟨g, hA⟩
  have cg : w11.cell? ⟨g, 0, none⟩ = some (.string ⟨#[97, 110, 110]⟩) := (how.cellAt 0 (by simp)).trans rfl
  have hr11 := heap_kp0 HR10.out hk11 nb5
  have c6 : w11.cell? ⟨w5.heap.size, 6, none⟩ = some (.int .i64 20) := by rw [World.cell?]; simp only [hr11]; rfl
  have HB11 := Lib.hid (below_kp HB10.out hk11 HB.out (Nat.le_refl _))
  clear hk11 hs11 hr11 how hp
  dsimp only
  go_wp2_with fail
  go_ret
  exact ⟨rfl, HB11.out⟩
end Go.Proofs.YtmbfenkmabdokaaGreatDoor
