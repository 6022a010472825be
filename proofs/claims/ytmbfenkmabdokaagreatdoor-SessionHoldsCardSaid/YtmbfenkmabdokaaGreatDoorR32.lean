/- Parts of the proof: Bits, Apart. -/
import Derived.Laws.BitsLemmas
import Derived.ChangeSlices
import Derived.Test.YtmbfenkmabdokaaGreatDoorR00
import Derived.Test.YtmbfenkmabdokaaGreatDoorR27
set_option linter.all false
namespace Go.Proofs.YtmbfenkmabdokaaGreatDoor
open Go.RowKit

theorem mask_15 (n : Int) : bits .and .i64 n 15 = n % 16 := by
  have hm : (BitVec.ofInt 64 15).toNat = 2 ^ 4 - 1 := by decide
  have key : (BitVec.ofInt 64 n &&& BitVec.ofInt 64 15).toNat = (n % ((2 ^ 64 : Nat) : Int)).toNat % 2 ^ 4 := by
    rw [BitVec.toNat_and, BitVec.toNat_ofInt, hm, Nat.and_two_pow_sub_one_eq_mod]
  show IntKind.i64.wrap ((BitVec.ofInt 64 n &&& BitVec.ofInt 64 15).toNat : Nat) = n % 16
  rw [key, IntKind.wrap_i64]
  omega
theorem mask_63 (n : Int) : bits .and .i64 n 63 = n % 64 := by
  have hm : (BitVec.ofInt 64 63).toNat = 2 ^ 6 - 1 := by decide
  have key : (BitVec.ofInt 64 n &&& BitVec.ofInt 64 63).toNat = (n % ((2 ^ 64 : Nat) : Int)).toNat % 2 ^ 6 := by
    rw [BitVec.toNat_and, BitVec.toNat_ofInt, hm, Nat.and_two_pow_sub_one_eq_mod]
  show IntKind.i64.wrap ((BitVec.ofInt 64 n &&& BitVec.ofInt 64 63).toNat : Nat) = n % 64
  rw [key, IntKind.wrap_i64]
  omega
theorem mask_255 (n : Int) : bits .and .i64 n 255 = n % 256 := by
  have hm : (BitVec.ofInt 64 255).toNat = 2 ^ 8 - 1 := by decide
  have key : (BitVec.ofInt 64 n &&& BitVec.ofInt 64 255).toNat = (n % ((2 ^ 64 : Nat) : Int)).toNat % 2 ^ 8 := by
    rw [BitVec.toNat_and, BitVec.toNat_ofInt, hm, Nat.and_two_pow_sub_one_eq_mod]
  show IntKind.i64.wrap ((BitVec.ofInt 64 n &&& BitVec.ofInt 64 255).toNat : Nat) = n % 256
  rw [key, IntKind.wrap_i64]
  omega
theorem mask_1023 (n : Int) : bits .and .i64 n 1023 = n % 1024 := by
  have hm : (BitVec.ofInt 64 1023).toNat = 2 ^ 10 - 1 := by decide
  have key : (BitVec.ofInt 64 n &&& BitVec.ofInt 64 1023).toNat = (n % ((2 ^ 64 : Nat) : Int)).toNat % 2 ^ 10 := by
    rw [BitVec.toNat_and, BitVec.toNat_ofInt, hm, Nat.and_two_pow_sub_one_eq_mod]
  show IntKind.i64.wrap ((BitVec.ofInt 64 n &&& BitVec.ofInt 64 1023).toNat : Nat) = n % 1024
  rw [key, IntKind.wrap_i64]
  omega
theorem mask_4095 (n : Int) : bits .and .i64 n 4095 = n % 4096 := by
  have hm : (BitVec.ofInt 64 4095).toNat = 2 ^ 12 - 1 := by decide
  have key : (BitVec.ofInt 64 n &&& BitVec.ofInt 64 4095).toNat = (n % ((2 ^ 64 : Nat) : Int)).toNat % 2 ^ 12 := by
    rw [BitVec.toNat_and, BitVec.toNat_ofInt, hm, Nat.and_two_pow_sub_one_eq_mod]
  show IntKind.i64.wrap ((BitVec.ofInt 64 n &&& BitVec.ofInt 64 4095).toNat : Nat) = n % 4096
  rw [key, IntKind.wrap_i64]
  omega
theorem mod_nat (n : Int) (k : Nat) (hk : 0 < k) : ∃ q : Nat, n % (k : Int) = q ∧ q < k := by
  have h0 := Int.emod_nonneg n (show (k : Int) ≠ 0 by omega)
  have h1 := Int.emod_lt_of_pos n (show 0 < (k : Int) by omega)
  exact ⟨(n % (k : Int)).toNat, by omega, by omega⟩
end Go.Proofs.YtmbfenkmabdokaaGreatDoor

namespace Go.Proofs.YtmbfenkmabdokaaGreatDoor
open Go.RowKit Go.Mp

def dr15 : Bytes := [0, 0, 0, 0, 0, 0, 0, 0, 0, 0, 0, 0, 0, 0, 0, 1]
def tk15 : Bytes := hexB dr15
theorem tok15 : isTok tk15 = true := tok_of_hex dr15 rfl
def xA : Sess := newS ⟨#[97, 110, 110]⟩ 2 1125899906842624 1000 0
theorem apR : issueR [] dr0 ⟨#[97, 110, 110]⟩ 2 1125899906842624 1000 0 = 0 := by kernel_rfl
theorem apE (k : ByteArray) : issueE [] k dr0 ⟨#[97, 110, 110]⟩ 2 1125899906842624 1000 0 = #[.string (bs (cookieB k.data.toList tk0)), .int .i64 0] := by unfold issueE; rw [apR]; rfl
theorem apS : issueS [] dr0 ⟨#[97, 110, 110]⟩ 2 1125899906842624 1000 0 = [(tk0, xA)] := by unfold issueS; rw [apR]; rfl
theorem ap2R : issueR [(tk0, xA)] dr15 ⟨#[97, 110, 110]⟩ 2 1125899906842624 1000 0 = 0 := by kernel_rfl
theorem ap2E (k : ByteArray) : issueE [(tk0, xA)] k dr15 ⟨#[97, 110, 110]⟩ 2 1125899906842624 1000 0 = #[.string (bs (cookieB k.data.toList tk15)), .int .i64 0] := by unfold issueE; rw [ap2R]; rfl
theorem tk_ne : tk15 ≠ tk0 := fun h => by
  have := hexB_inj _ _ h
  revert this; decide
theorem ap2S : issueS [(tk0, xA)] dr15 ⟨#[97, 110, 110]⟩ 2 1125899906842624 1000 0 = [(tk0, xA), (tk15, xA)] := by
  unfold issueS; rw [ap2R, if_pos rfl]
  show putL [(tk0, xA)] tk15 xA = _
  rw [putL_new]; · rfl
  · unfold getL; simp [tk_ne]
theorem getL_fst (x y : Sess) : getL [(tk0, x), (tk15, y)] tk0 = some x := by unfold getL; simp
theorem getL_snd (x y : Sess) : getL [(tk0, x), (tk15, y)] tk15 = some y := by unfold getL; simp [tk_ne]
theorem putL_fst (x y z : Sess) : putL [(tk0, x), (tk15, y)] tk0 z = [(tk0, z), (tk15, y)] := by
  unfold putL; simp [tk_ne.symm]
theorem spendS_fst (x y : Sess) (now cost role : Int) : ∃ z, spendS [(tk0, x), (tk15, y)] tk0 now cost role = [(tk0, z), (tk15, y)] := by
  unfold spendS
  split
  · rw [getL_fst]; exact ⟨_, putL_fst _ _ _⟩
  · exact ⟨x, rfl⟩

theorem wpList_load_row_g {P : Program} {ops : Array Oper} {rest : List Oper} {o : Oper} {a : Act} {w : World} {Q : Exit → Act → World → Prop} (hw : Region.wanted o (yielded ops a.tmps) = true) (ty : TypeId) (x : Operand) (ho : o.op = .load ty x)
    (g : Nat) (hx : a.eval x = .pointer (some ⟨g, 0, none⟩)) (t : TypeId) (cs : Array Value) (fr : Nat × Nat) (d : TypeDesc) (hg : w.heap[g]? = some (.cells cs t fr))
    (hu : P.underlying ty = some d) (hd : (match d with | .struct _ | .array _ _ => true | _ => false) = true) (hi : (P.info? ty).map (·.size) = some cs.size)
    (h : wpList P ops Q rest (a.put o.dst (.agg cs)) w) : wpList P ops Q (o :: rest) a w :=
  wpList_step fun _ hK => by rw [if_pos hw]; exact wp_load_row ty x ho g hx t cs fr d hg hu hd hi (hK _ _ h)

set_option maxRecDepth 100000 in
set_option maxHeartbeats 4000000 in
theorem Apart_ok (w : World) (A : Option Addr) (n c : Nat) (step : Int) (hE : EnvN w) (hA : ∀ j, j < n → ∃ ad z, A = some ad ∧ w.cell? (ad.add j) = some (.int .i64 z)) (hn : n ≤ maxLen) :
    Calls Tryz.prog 6 #[.slice A n c, .int .i64 step] w fun e w' => e = .returned (.bool true) ∧ Below w.heap.size w w' := by
  have cW := Lib.hid (awake_ok w hE)
  have HE := Lib.hid hE; have HA := Lib.hid hA
  clear hE hA
  obtain ⟨q, hq, hq1⟩ : ∃ q : Nat, bits .and .i64 step 1023 = q ∧ q < 1024 := by rw [mask_1023]; exact mod_nat step 1024 (by omega)
  have hi8 : (Tryz.prog.info? 36).map (·.size) = some (sessC (bs tk0) xA).size := by kernel_rfl
  have hall8 : (sessC (bs tk0) xA).all (·.oneCell') = true := by kernel_rfl
  have hi9 : (Tryz.prog.info? 36).map (·.size) = some (sessC (bs tk15) xA).size := by kernel_rfl
  have hall9 : (sessC (bs tk15) xA).all (·.oneCell') = true := by kernel_rfl
  have hix : (Tryz.prog.info? 36).map (·.size) = some (#[.string ⟨#[]⟩, .string ⟨#[97, 110, 110]⟩, .int .i64 2, .int .i64 1125899906842624, .int .i64 1000, .int .i64 0, .int .i64 0, .int .i64 0] : Array Value).size := by kernel_rfl
  have hm := mk_draw
  go_enter Tryz.func6, Tryz.ntmps6
  go_wp2_with fail
  refine cW.out.mono ?_
  rintro e w0 ⟨rfl, hb0⟩
  have HB0 := Lib.hid hb0
  have cF := Lib.hid (Fresh_ok w0 200 (by omega) (by omega) (HE.out.below hb0))
  clear hb0
  dsimp only
  go_wp2_with fail
  refine cF.out.mono ?_
  rintro e w1 ⟨h, s, t, p, b, rfl, hst, hb1, hs, hb⟩
  have hss : Ss w1 s t p b [] := ⟨hst, SOk.nil⟩
  have HSS := Lib.hid hss; have HB1 := Lib.hid (HB0.out.trans (hb1.mono HB0.out.size)); have HB := Lib.hid (Nat.le_trans HB0.out.size hb)
  have hlb : b < w1.heap.size := hst.lb
  clear hst hss hb1 hs hb
  dsimp only
  go_wp2_with fail
  obtain ⟨W2, hW2⟩ : ∃ W2, W2 = ((w1.alloc (.cells (bcs dr0).toArray 5)).alloc (.cells ((bcs dr0).set 15 (Value.int .u8 1)).toArray 5)).alloc (.cells #[.string ⟨#[]⟩, .string ⟨#[97, 110, 110]⟩, .int .i64 2, .int .i64 1125899906842624, .int .i64 1000, .int .i64 0, .int .i64 0, .int .i64 0] 36) := ⟨_, rfl⟩
  have hb2 : Below w1.heap.size w1 W2 := by rw [hW2]; exact (((Below.refl _ _).alloc (Nat.le_refl _) _).alloc (by simp) _).alloc (by simp; omega) _
  have bd2 : W2.heap[w1.heap.size]? = some (.cells (bcs dr0).toArray 5 (0, 0)) := by rw [hW2]; exact (Below.heap_alloc _ _ _ (by simp; omega)).trans (two_a _ _ _)
  have be2 : W2.heap[w1.heap.size + 1]? = some (.cells ((bcs dr0).set 15 (Value.int .u8 1)).toArray 5 (0, 0)) := by rw [hW2]; exact (Below.heap_alloc _ _ _ (by simp)).trans (two_b _ _ _)
  have bx2 : W2.heap[w1.heap.size + 1 + 1]? = some (.cells #[.string ⟨#[]⟩, .string ⟨#[97, 110, 110]⟩, .int .i64 2, .int .i64 1125899906842624, .int .i64 1000, .int .i64 0, .int .i64 0, .int .i64 0] 36 (0, 0)) := by
    rw [hW2]
    have h := heap_alloc_new ((w1.alloc (.cells (bcs dr0).toArray 5)).alloc (.cells ((bcs dr0).set 15 (Value.int .u8 1)).toArray 5)) (.cells #[.string ⟨#[]⟩, .string ⟨#[97, 110, 110]⟩, .int .i64 2, .int .i64 1125899906842624, .int .i64 1000, .int .i64 0, .int .i64 0, .int .i64 0] 36)
    simpa using h
  rw [← hW2]
  clear hW2
  have cI := Issue_L W2 s t p b [] ⟨#[107]⟩ (some ⟨w1.heap.size, 0, none⟩) 16 dr0 ⟨#[]⟩ ⟨#[97, 110, 110]⟩ 2 1125899906842624 1000 0 0 0 (HSS.out.below hb2) (by simp) (rd_row bd2 rfl) (by decide) (by decide) (by decide) (by decide)
  rw [apE, apS, show dr0.length = 16 from rfl] at cI
  have HB2 := Lib.hid (HB1.out.trans (hb2.mono HB1.out.size)); have BE2 := Lib.hid be2; have BX2 := Lib.hid bx2
  have nd : w1.heap.size + 1 ≠ b := by omega
  have nx : w1.heap.size + 1 + 1 ≠ b := by omega
  clear hb2 bd2 be2 bx2
  refine cI.mono ?_
  rintro e w3 ⟨rfl, hs3, hk3⟩
  have be3 := heap_kp0 BE2.out hk3 nd
  have bx3 := heap_kp0 BX2.out hk3 nx
  have cc73 := cookie_size [107] tk0 tok0
  have cd73 := cookie_size [107] tk15 tok15
  have hcc : (⟨#[107]⟩ : ByteArray).data.toList = [107] := rfl

  rw [hcc]
  have HB3 := Lib.hid (below_kp HB2.out hk3 HB.out (Nat.le_refl _)); have HS3 := Lib.hid hs3; have BX3 := Lib.hid bx3; have BE3 := Lib.hid be3
  clear hs3 hk3 be3 bx3 cI hcc
  dsimp only
  go_wp2_with first | (refine wpList_load_row rfl 36 _ rfl (w1.heap.size + 1 + 1) rfl _ #[.string ⟨#[]⟩, .string ⟨#[97, 110, 110]⟩, .int .i64 2, .int .i64 1125899906842624, .int .i64 1000, .int .i64 0, .int .i64 0, .int .i64 0] _ _ BX3.out Tryz.underlying36 rfl hix ?_) | fail
  have cI := Issue_L w3 s t p b [(tk0, xA)] ⟨#[107]⟩ (some ⟨w1.heap.size + 1, 0, none⟩) 16 dr15 ⟨#[]⟩ ⟨#[97, 110, 110]⟩ 2 1125899906842624 1000 0 0 0 HS3.out (by simp) (rd_row BE3.out rfl) (by decide) (by decide) (by decide) (by decide)
  rw [ap2E, ap2S, show (⟨#[107]⟩ : ByteArray).data.toList = [107] from rfl, show dr15.length = 16 from rfl] at cI
  refine cI.mono ?_
  rintro e w4 ⟨rfl, hs4, hk4⟩
  have HB4 := Lib.hid (below_kp HB3.out hk4 HB.out (Nat.le_refl _)); have HS4 := Lib.hid hs4
  clear hs4 hk4 cI
  dsimp only
  go_wp2_with fail
  refine (Find_L w4 s t p b [(tk0, xA), (tk15, xA)] ⟨#[107]⟩ (bs (cookieB [107] tk0)) 0 HS4.out (by decide) (by rw [cc73]; decide)).mono ?_
  rintro e w5 ⟨rfl, hb5⟩
  rw [show findR [(tk0, xA), (tk15, xA)] (⟨#[107]⟩ : ByteArray).data.toList (bs (cookieB [107] tk0)).data.toList 0 = (sessC (bs tk0) xA, 0) from findR_cookie _ _ _ _ _ tok0 (getL_fst _ _) (by decide)]
  have b5 := HB4.out.trans (hb5.mono HB4.out.size)
  have s5 := HS4.out.below hb5
  have hn5 := heap_alloc_new w5 (.cells zeroS 36)
  have hb6 : Below w5.heap.size w5 ((w5.alloc (.cells #[.string ⟨#[]⟩, .string ⟨#[]⟩, .int .i64 0, .int .i64 0, .int .i64 0, .int .i64 0, .int .i64 0, .int .i64 0] 36)).setRow w5.heap.size (sessC (bs tk0) xA)) := below_setRow ((Below.refl _ _).alloc (Nat.le_refl _) _) (Nat.le_refl _) _
  have hr6 : ((w5.alloc (.cells #[.string ⟨#[]⟩, .string ⟨#[]⟩, .int .i64 0, .int .i64 0, .int .i64 0, .int .i64 0, .int .i64 0, .int .i64 0] 36)).setRow w5.heap.size (sessC (bs tk0) xA)).heap[w5.heap.size]? = some (.cells (sessC (bs tk0) xA) 36 (0, 0)) := setRow_heap _ _ _ _ _ _ hn5
  have hlb5 : b < w5.heap.size := s5.st.lb
  generalize hX6 : ((w5.alloc (.cells #[.string ⟨#[]⟩, .string ⟨#[]⟩, .int .i64 0, .int .i64 0, .int .i64 0, .int .i64 0, .int .i64 0, .int .i64 0] 36)).setRow w5.heap.size (sessC (bs tk0) xA)) = w6 at hb6 hr6
  have b6 := b5.trans (hb6.mono b5.size)
  have s6 := s5.below hb6
  have HN5 := Lib.hid hn5; have HX6 := Lib.hid hX6; have HB6 := Lib.hid b6; have HS6 := Lib.hid s6; have HR6 := Lib.hid hr6
  clear hb5 b5 s5 hn5 hb6 hX6 b6 s6 hr6
  dsimp only
  go_wp2_with first | (refine wpList_store_row rfl 36 _ _ rfl w5.heap.size (sessC (bs tk0) xA) rfl rfl 36 _ HN5.out hi8 rfl hall8 ?_; rw [HX6.out]) | fail
  refine (Find_L w6 s t p b [(tk0, xA), (tk15, xA)] ⟨#[107]⟩ (bs (cookieB [107] tk15)) 0 HS6.out (by decide) (by rw [cd73]; decide)).mono ?_
  rintro e w7 ⟨rfl, hb7⟩
  rw [show findR [(tk0, xA), (tk15, xA)] (⟨#[107]⟩ : ByteArray).data.toList (bs (cookieB [107] tk15)).data.toList 0 = (sessC (bs tk15) xA, 0) from findR_cookie _ _ _ _ _ tok15 (getL_snd _ _) (by decide)]
  have b7 := HB6.out.trans (hb7.mono HB6.out.size)
  have s7 := HS6.out.below hb7
  have hr7 := heap_below HR6.out hb7
  have hn7 := heap_alloc_new w7 (.cells zeroS 36)
  have hb8 : Below w7.heap.size w7 ((w7.alloc (.cells #[.string ⟨#[]⟩, .string ⟨#[]⟩, .int .i64 0, .int .i64 0, .int .i64 0, .int .i64 0, .int .i64 0, .int .i64 0] 36)).setRow w7.heap.size (sessC (bs tk15) xA)) := below_setRow ((Below.refl _ _).alloc (Nat.le_refl _) _) (Nat.le_refl _) _
  have hq8 : ((w7.alloc (.cells #[.string ⟨#[]⟩, .string ⟨#[]⟩, .int .i64 0, .int .i64 0, .int .i64 0, .int .i64 0, .int .i64 0, .int .i64 0] 36)).setRow w7.heap.size (sessC (bs tk15) xA)).heap[w7.heap.size]? = some (.cells (sessC (bs tk15) xA) 36 (0, 0)) := setRow_heap _ _ _ _ _ _ hn7
  have hlb7 : b < w7.heap.size := s7.st.lb
  generalize hX8 : ((w7.alloc (.cells #[.string ⟨#[]⟩, .string ⟨#[]⟩, .int .i64 0, .int .i64 0, .int .i64 0, .int .i64 0, .int .i64 0, .int .i64 0] 36)).setRow w7.heap.size (sessC (bs tk15) xA)) = w8 at hb8 hq8
  have b8 := b7.trans (hb8.mono b7.size)
  have s8 := s7.below hb8
  have hr8 := heap_below hr7 hb8
  have HN7 := Lib.hid hn7; have HX8 := Lib.hid hX8; have HB8 := Lib.hid b8; have HS8 := Lib.hid s8; have HR8 := Lib.hid hr8; have HQ8 := Lib.hid hq8
  clear hb7 b7 s7 hn7 hb8 hX8 b8 s8 hr7 hr8 hq8
  dsimp only
  go_wp2_with first | (refine wpList_store_row rfl 36 _ _ rfl w7.heap.size (sessC (bs tk15) xA) rfl rfl 36 _ HN7.out hi9 rfl hall9 ?_; rw [HX8.out]) | fail
  have htz : (bs tk0).size ≤ 9223372036854775807 := by rw [bs_size, tok_len tk0 tok0]; decide
  go_loopw [19, 20] (fun m i wr => ∃ k mm : Nat, k ≤ 50 ∧ k ≤ n ∧ mm ≤ k * 1023 ∧ m = .int .i64 mm ∧ i = .int .i64 k ∧ (∃ z, Ss wr s t p b [(tk0, z), (tk15, xA)]) ∧ Kp (· = b) w8 wr) (fun _ i _ => 50 - (intOf i).toNat)
  case atStart => exact ⟨0, 0, by omega, by omega, by omega, rfl, rfl, ⟨xA, HS8.out⟩, Kp.refl _ _⟩
  case round =>
    obtain ⟨k, mm, hk50, hkn, hmm, rfl, rfl, ⟨x, hss⟩, hkp⟩ := hrel
    have hbw := below_kp HB8.out hkp HB.out (Nat.le_refl _)
    have hr := heap_kp0 HR8.out hkp (by omega)
    have hq' := heap_kp0 HQ8.out hkp (by omega)
    have c0 : wr.cell? ⟨w5.heap.size, 0, none⟩ = some (.string (bs tk0)) := by rw [World.cell?]; simp only [hr]; rfl
    have HSS2 := Lib.hid hss; have HKP := Lib.hid hkp; have HBW := Lib.hid hbw; have HQ := Lib.hid hq'
    clear hss hkp hbw hr hq'
    by_cases h1 : k < n
    · by_cases h2 : k < 50
      · obtain ⟨ad, z, rfl, hz⟩ := HA.out k h1
        have hzr : wr.cell? (ad.add k) = some (.int .i64 z) := by
          rw [← hz]; exact World.cell?_of_block (HBW.out.block _ (World.block_lt_of_cell? w _ hz))
        go_wp2_with fail
        obtain ⟨S, hSd⟩ : ∃ S : World → Prop, ∀ w', S w' ↔ (w'.cell? ⟨w5.heap.size, 0, none⟩ = some (.string (bs tk0)) ∧ w'.cell? (ad.add k) = some (.int .i64 z)) := ⟨_, fun _ => Iff.rfl⟩
        have hS : S wr.drew := (hSd _).2 ⟨c0, hzr⟩
        have HSd := Lib.hid hSd
        clear hSd
        refine wp_region_I (by kernel_rfl) S 99 ?_
        refine wpAnyS_take 0 (v := ?_) rfl (by kernel_rfl) (by kernel_rfl) (by kernel_rfl) rfl (fun _ _ _ h => h) (.inl ⟨rfl, fun w' hS' => ?_⟩) hS ?_; rotate_left 1; focus (have hf := (HSd.out w').1 hS'; (repeat (obtain ⟨_, hf⟩ := hf)); go_simp; (try rfl))
        refine wpAnyS_take 1 (v := ?_) rfl (by kernel_rfl) (by kernel_rfl) (by kernel_rfl) rfl (fun _ _ _ h => h) (.inl ⟨rfl, fun w' hS' => ?_⟩) hS ?_; rotate_left 1; focus (have hf := (HSd.out w').1 hS'; (repeat (obtain ⟨_, hf⟩ := hf)); go_simp; (try rfl))
        refine wpAnyS_take 2 (v := ?_) rfl (by kernel_rfl) (by kernel_rfl) (by kernel_rfl) rfl (fun _ _ _ h => h) (.inl ⟨rfl, fun w' hS' => ?_⟩) hS ?_; rotate_left 1; focus (have hf := (HSd.out w').1 hS'; (repeat (obtain ⟨_, hf⟩ := hf)); go_simp; (try rfl))
        refine wpAnyS_take 3 (v := ?_) rfl (by kernel_rfl) (by kernel_rfl) (by kernel_rfl) rfl (fun _ _ _ h => h) (.inl ⟨rfl, fun w' hS' => ?_⟩) hS ?_; rotate_left 1; focus (have hf := (HSd.out w').1 hS'; (repeat (obtain ⟨_, hf⟩ := hf)); go_simp; (try rfl))
        refine wpAnyS_take 4 (v := ?_) rfl (by kernel_rfl) (by kernel_rfl) (by kernel_rfl) rfl (fun _ _ _ h => h) (.inl ⟨rfl, fun w' hS' => ?_⟩) hS ?_; rotate_left 1; focus (have hf := (HSd.out w').1 hS'; (repeat (obtain ⟨_, hf⟩ := hf)); go_simp; (try rfl))
        refine wpAnyS_take 5 (v := ?_) rfl (by kernel_rfl) (by kernel_rfl) (by kernel_rfl) rfl (fun _ _ _ h => h) (.inl ⟨rfl, fun w' hS' => ?_⟩) hS ?_; rotate_left 1; focus (have hf := (HSd.out w').1 hS'; (repeat (obtain ⟨_, hf⟩ := hf)); go_simp; (try rfl))
        refine wpAnyS_take 6 (v := ?_) rfl (by kernel_rfl) (by kernel_rfl) (by kernel_rfl) rfl (fun _ _ _ h => h) (.inl ⟨rfl, fun w' hS' => ?_⟩) hS ?_; rotate_left 1; focus (have hf := (HSd.out w').1 hS'; (repeat (obtain ⟨_, hf⟩ := hf)); go_simp; (try rfl))
        refine wpAnyS_take 7 (v := ?_) rfl (by kernel_rfl) (by kernel_rfl) (by kernel_rfl) rfl (fun _ _ _ h => h) (.inl ⟨rfl, fun w' hS' => ?_⟩) hS ?_; rotate_left 1; focus (have hf := (HSd.out w').1 hS'; (repeat (obtain ⟨_, hf⟩ := hf)); go_simp; (try rfl))
        refine wpAnyS_take 8 (v := ?_) rfl (by kernel_rfl) (by kernel_rfl) (by kernel_rfl) rfl (fun _ _ _ h => h) (.inl ⟨rfl, fun w' hS' => ?_⟩) hS ?_; rotate_left 1; focus (have hf := (HSd.out w').1 hS'; (repeat (obtain ⟨_, hf⟩ := hf)); go_simp; (try rfl))
        refine wpAnyI_one 9 (by kernel_rfl) (wpOp_step rfl (fun K hK => ?_)); go_simp
        have hsd := HSS2.out.below (Below.refl wr.heap.size wr).drew
        refine (Spend_L wr.drew s t p b [(tk0, x), (tk15, xA)] (bs tk0) mm _ 1 hsd htz).mono ?_
        rintro e wn ⟨rfl, hsn, hkn2⟩
        rw [bs_list] at hsn
        obtain ⟨z', hz'⟩ := spendS_fst x xA mm (bits .and .i64 z 63) 1
        rw [hz'] at hsn
        have hsz : ad.block < w.heap.size := by have h := World.block_lt_of_cell? w _ hz; rw [Go.ChangeShapes.block_add] at h; exact h
        have hne : ad.block ≠ b := by have := HB.out; omega
        have hS2 : S wn := (HSd.out _).2 ⟨by rw [← c0]; exact World.cell?_of_block (hkn2.block _ (lt_of_cell c0) (show w5.heap.size ≠ b by omega)), by rw [← hzr]; exact World.cell?_of_block (hkn2.block _ (World.block_lt_of_cell? wr _ hzr) (by rw [Go.ChangeShapes.block_add]; exact hne))⟩
        have HSN := Lib.hid hsn; have HKN := Lib.hid (HKP.out.trans ((Kp.of_below (Below.refl wr.heap.size wr).drew (· = b)).trans hkn2))
        clear hsn hkn2 hz' hsz hne hsd c0 hzr hz
        refine hK _ _ ⟨fun _ => hS2, ?_⟩
        clear hK K
        refine wpAnyI_done (by kernel_rfl) ?_ _
        clear hS hS2
        go_simp
        go_wp2
        go_roundw
        case rel => first | exact ⟨k + 1, mm + q, by omega, by omega, by omega, rfl, rfl, ⟨z', HSN.out⟩, HKN.out⟩ | ((repeat apply Exists.intro); exact ⟨⟨k + 1, mm + q, by omega, by omega, by omega, rfl, rfl, ⟨z', HSN.out⟩, HKN.out⟩, rfl⟩)
        case measure => simp [intOf]; omega
      · skip
        have hmx : (mm : Int) < ((xA.ends : Nat) : Int) := by show (mm : Int) < ((1125899906842624 : Nat) : Int); omega
        have HMX := Lib.hid hmx
        have h2i : ¬ ((k : Int) < 50) := by omega
        clear c0 hmx hmm hkn hk50 h2
        go_wp2_with fail
        refine (Find_L wr s t p b [(tk0, x), (tk15, xA)] ⟨#[107]⟩ (bs (cookieB [107] tk15)) mm HSS2.out (by decide) (by rw [cd73]; decide)).mono ?_
        rintro e wf ⟨rfl, hbf⟩
        rw [show findR [(tk0, x), (tk15, xA)] (⟨#[107]⟩ : ByteArray).data.toList (bs (cookieB [107] tk15)).data.toList mm = (sessC (bs tk15) xA, 0) from findR_cookie _ _ _ _ _ tok15 (getL_snd _ _) HMX.out]
        have bf := HBW.out.trans (hbf.mono HBW.out.size)
        have hrf := heap_below HQ.out hbf
        have hnf := heap_alloc_new wf (.cells zeroS 36)
        have hbg : Below wf.heap.size wf ((wf.alloc (.cells #[.string ⟨#[]⟩, .string ⟨#[]⟩, .int .i64 0, .int .i64 0, .int .i64 0, .int .i64 0, .int .i64 0, .int .i64 0] 36)).setRow wf.heap.size (sessC (bs tk15) xA)) := below_setRow ((Below.refl _ _).alloc (Nat.le_refl _) _) (Nat.le_refl _) _
        have hqg : ((wf.alloc (.cells #[.string ⟨#[]⟩, .string ⟨#[]⟩, .int .i64 0, .int .i64 0, .int .i64 0, .int .i64 0, .int .i64 0, .int .i64 0] 36)).setRow wf.heap.size (sessC (bs tk15) xA)).heap[wf.heap.size]? = some (.cells (sessC (bs tk15) xA) 36 (0, 0)) := setRow_heap _ _ _ _ _ _ hnf
        generalize hXg : ((wf.alloc (.cells #[.string ⟨#[]⟩, .string ⟨#[]⟩, .int .i64 0, .int .i64 0, .int .i64 0, .int .i64 0, .int .i64 0, .int .i64 0] 36)).setRow wf.heap.size (sessC (bs tk15) xA)) = wg at hbg hqg
        have hrg := heap_below hrf hbg
        have hb' := bf.trans (hbg.mono bf.size)
        have c5 : wg.cell? ⟨wf.heap.size, 5, none⟩ = some (.int .i64 0) := by rw [World.cell?]; simp only [hqg]; rfl
        have hlit : sessC (bs tk15) xA = #[.string (bs tk15), .string ⟨#[97, 110, 110]⟩, .int .i64 2, .int .i64 1125899906842624, .int .i64 1000, .int .i64 0, .int .i64 20, .int .i64 0] := by kernel_rfl
        rw [hlit] at hXg hrg hqg ⊢
        have hi9' : (Tryz.prog.info? 36).map (·.size) = some (#[.string (bs tk15), .string ⟨#[97, 110, 110]⟩, .int .i64 2, .int .i64 1125899906842624, .int .i64 1000, .int .i64 0, .int .i64 20, .int .i64 0] : Array Value).size := by kernel_rfl
        have hall9' : (#[.string (bs tk15), .string ⟨#[97, 110, 110]⟩, .int .i64 2, .int .i64 1125899906842624, .int .i64 1000, .int .i64 0, .int .i64 20, .int .i64 0] : Array Value).all (·.oneCell') = true := by kernel_rfl
        have HNF := Lib.hid hnf; have HXG := Lib.hid hXg; have HRG := Lib.hid hrg; have HQG := Lib.hid hqg; have HBG := Lib.hid hb'
        clear hbf bf hrf hnf hbg hXg hb' hrg hqg hlit hi9 hall9 HQ HN7 HX8 h1 h2i hn hq hq1 htz hi8 hall8 hix hm cc73 cd73
        dsimp only
        go_wp2_with first | (refine wpList_store_row rfl 36 _ _ rfl wf.heap.size (#[.string (bs tk15), .string ⟨#[97, 110, 110]⟩, .int .i64 2, .int .i64 1125899906842624, .int .i64 1000, .int .i64 0, .int .i64 20, .int .i64 0]) rfl rfl 36 _ HNF.out hi9' rfl hall9' ?_; rw [HXG.out]) | (refine wpList_load_row_g rfl 36 _ rfl w7.heap.size rfl _ (#[.string (bs tk15), .string ⟨#[97, 110, 110]⟩, .int .i64 2, .int .i64 1125899906842624, .int .i64 1000, .int .i64 0, .int .i64 20, .int .i64 0]) _ _ HRG.out Tryz.underlying36 rfl hi9' ?_) | (refine wpList_load_row_g rfl 36 _ rfl wf.heap.size rfl _ (#[.string (bs tk15), .string ⟨#[97, 110, 110]⟩, .int .i64 2, .int .i64 1125899906842624, .int .i64 1000, .int .i64 0, .int .i64 20, .int .i64 0]) _ _ HQG.out Tryz.underlying36 rfl hi9' ?_) | fail
        go_ret
        exact ⟨rfl, HBG.out⟩
    · skip
      have hmx : (mm : Int) < ((xA.ends : Nat) : Int) := by show (mm : Int) < ((1125899906842624 : Nat) : Int); omega
      have HMX := Lib.hid hmx
      have h2i : ¬ ((k : Int) < (n : Int)) := by omega
      clear c0 hmx hmm hkn hk50
      go_wp2_with fail
      refine (Find_L wr s t p b [(tk0, x), (tk15, xA)] ⟨#[107]⟩ (bs (cookieB [107] tk15)) mm HSS2.out (by decide) (by rw [cd73]; decide)).mono ?_
      rintro e wf ⟨rfl, hbf⟩
      rw [show findR [(tk0, x), (tk15, xA)] (⟨#[107]⟩ : ByteArray).data.toList (bs (cookieB [107] tk15)).data.toList mm = (sessC (bs tk15) xA, 0) from findR_cookie _ _ _ _ _ tok15 (getL_snd _ _) HMX.out]
      have bf := HBW.out.trans (hbf.mono HBW.out.size)
      have hrf := heap_below HQ.out hbf
      have hnf := heap_alloc_new wf (.cells zeroS 36)
      have hbg : Below wf.heap.size wf ((wf.alloc (.cells #[.string ⟨#[]⟩, .string ⟨#[]⟩, .int .i64 0, .int .i64 0, .int .i64 0, .int .i64 0, .int .i64 0, .int .i64 0] 36)).setRow wf.heap.size (sessC (bs tk15) xA)) := below_setRow ((Below.refl _ _).alloc (Nat.le_refl _) _) (Nat.le_refl _) _
      have hqg : ((wf.alloc (.cells #[.string ⟨#[]⟩, .string ⟨#[]⟩, .int .i64 0, .int .i64 0, .int .i64 0, .int .i64 0, .int .i64 0, .int .i64 0] 36)).setRow wf.heap.size (sessC (bs tk15) xA)).heap[wf.heap.size]? = some (.cells (sessC (bs tk15) xA) 36 (0, 0)) := setRow_heap _ _ _ _ _ _ hnf
      generalize hXg : ((wf.alloc (.cells #[.string ⟨#[]⟩, .string ⟨#[]⟩, .int .i64 0, .int .i64 0, .int .i64 0, .int .i64 0, .int .i64 0, .int .i64 0] 36)).setRow wf.heap.size (sessC (bs tk15) xA)) = wg at hbg hqg
      have hrg := heap_below hrf hbg
      have hb' := bf.trans (hbg.mono bf.size)
      have c5 : wg.cell? ⟨wf.heap.size, 5, none⟩ = some (.int .i64 0) := by rw [World.cell?]; simp only [hqg]; rfl
      have hlit : sessC (bs tk15) xA = #[.string (bs tk15), .string ⟨#[97, 110, 110]⟩, .int .i64 2, .int .i64 1125899906842624, .int .i64 1000, .int .i64 0, .int .i64 20, .int .i64 0] := by kernel_rfl
      rw [hlit] at hXg hrg hqg ⊢
      have hi9' : (Tryz.prog.info? 36).map (·.size) = some (#[.string (bs tk15), .string ⟨#[97, 110, 110]⟩, .int .i64 2, .int .i64 1125899906842624, .int .i64 1000, .int .i64 0, .int .i64 20, .int .i64 0] : Array Value).size := by kernel_rfl
      have hall9' : (#[.string (bs tk15), .string ⟨#[97, 110, 110]⟩, .int .i64 2, .int .i64 1125899906842624, .int .i64 1000, .int .i64 0, .int .i64 20, .int .i64 0] : Array Value).all (·.oneCell') = true := by kernel_rfl
      have HNF := Lib.hid hnf; have HXG := Lib.hid hXg; have HRG := Lib.hid hrg; have HQG := Lib.hid hqg; have HBG := Lib.hid hb'
      clear hbf bf hrf hnf hbg hXg hb' hrg hqg hlit hi9 hall9 HQ HN7 HX8 h1 h2i hn hq hq1 htz hi8 hall8 hix hm cc73 cd73
      dsimp only
      go_wp2_with first | (refine wpList_store_row rfl 36 _ _ rfl wf.heap.size (#[.string (bs tk15), .string ⟨#[97, 110, 110]⟩, .int .i64 2, .int .i64 1125899906842624, .int .i64 1000, .int .i64 0, .int .i64 20, .int .i64 0]) rfl rfl 36 _ HNF.out hi9' rfl hall9' ?_; rw [HXG.out]) | (refine wpList_load_row_g rfl 36 _ rfl w7.heap.size rfl _ (#[.string (bs tk15), .string ⟨#[97, 110, 110]⟩, .int .i64 2, .int .i64 1125899906842624, .int .i64 1000, .int .i64 0, .int .i64 20, .int .i64 0]) _ _ HRG.out Tryz.underlying36 rfl hi9' ?_) | (refine wpList_load_row_g rfl 36 _ rfl wf.heap.size rfl _ (#[.string (bs tk15), .string ⟨#[97, 110, 110]⟩, .int .i64 2, .int .i64 1125899906842624, .int .i64 1000, .int .i64 0, .int .i64 20, .int .i64 0]) _ _ HQG.out Tryz.underlying36 rfl hi9' ?_) | fail
      go_ret
      exact ⟨rfl, HBG.out⟩
end Go.Proofs.YtmbfenkmabdokaaGreatDoor
