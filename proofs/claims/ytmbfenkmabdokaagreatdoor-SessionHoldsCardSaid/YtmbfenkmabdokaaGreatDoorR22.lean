/- Parts of the proof: Issue. -/
import Derived.Test.YtmbfenkmabdokaaGreatDoorR21
set_option linter.all false
namespace Go.Proofs.YtmbfenkmabdokaaGreatDoor
open Go.RowKit Go.Mp

theorem when_at (w : World) (c : Bool) (n : Int) : Calls Tryz.prog 40 #[.bool c, .int .i64 n] w fun e w' =>
    e = .returned (.func (.func 92) #[] #[pt w.heap.size, pt (w.heap.size + 1)]) ∧ WhenAt w' w.heap.size (w.heap.size + 1) c n ∧ Below w.heap.size w w' := by
  refine (when_ok w c n).mono ?_
  rintro e w' ⟨rfl, rfl⟩
  exact ⟨rfl, ⟨two_a _ _ _, two_b _ _ _⟩, ((Below.refl _ _).alloc (Nat.le_refl _) _).alloc (by simp) _⟩
theorem role_wrap {role : Int} (h : -9223372036854775808 ≤ role ∧ role ≤ 9223372036854775807) : (decide (0 ≤ IntKind.i64.wrap (role - 1)) && decide (IntKind.i64.wrap (role - 1) ≤ 2)) = decide (1 ≤ role ∧ role ≤ 3) := by
  by_cases hm : role = -9223372036854775808
  · subst hm; decide
  · have e : IntKind.i64.wrap (role - 1) = role - 1 := by
      rw [IntKind.wrap_i64, Int.emod_eq_of_lt (by omega) (by omega)]; omega
    rw [e]
    apply Bool.eq_iff_iff.2
    simp
    omega
def issueR (L : SL) (dr : Bytes) (au : ByteArray) (role ends quota at_ : Int) : Int := issueC L dr.length (hexB dr) au.data.toList role ends quota at_
def issueE (L : SL) (key : ByteArray) (dr : Bytes) (au : ByteArray) (role ends quota at_ : Int) : Array Value :=
  if issueR L dr au role ends quota at_ = 0 then #[.string (bs (cookieB key.data.toList (hexB dr))), .int .i64 0] else #[.string ⟨#[]⟩, .int .i64 (issueR L dr au role ends quota at_)]
def issueS (L : SL) (dr : Bytes) (au : ByteArray) (role ends quota at_ : Int) : SL :=
  if issueR L dr au role ends quota at_ = 0 then putL L (hexB dr) (newS au role ends quota at_) else L

set_option maxRecDepth 100000 in
set_option maxHeartbeats 4000000 in
theorem Issue_L (w : World) (s t p b : Nat) (L : SL) (key : ByteArray) (A : Option Addr) (c : Nat) (dr : Bytes) (tk0 au : ByteArray) (role ends quota used left at_ : Int)
    (h : Ss w s t p b L) (hL : L.length ≤ 1000) (hdr : RdB w A dr) (hdl : dr.length ≤ 70368744177664) (hk : key.size ≤ 140737488355100) (hau : au.size ≤ 9223372036854775807)
    (hrole : -9223372036854775808 ≤ role ∧ role ≤ 9223372036854775807) :
    Calls Tryz.prog 16 #[.pointer (some ⟨s, 0, none⟩), .string key, .slice A dr.length c, .agg #[.string tk0, .string au, .int .i64 role, .int .i64 ends, .int .i64 quota, .int .i64 used, .int .i64 left, .int .i64 at_]] w fun e w' =>
      e = .returned (.tuple (issueE L key dr au role ends quota at_)) ∧ Ss w' s t p b (issueS L dr au role ends quota at_) ∧ Kp (· = b) w w' := by
  obtain ⟨W0, hW0⟩ : ∃ W0, W0 = (w.alloc (.cells #[.pointer (some ⟨s, 0, none⟩)] 31)).alloc (.cells #[.string tk0, .string au, .int .i64 role, .int .i64 ends, .int .i64 quota, .int .i64 used, .int .i64 left, .int .i64 at_] 36) := ⟨_, rfl⟩
  have hb0 : Below w.heap.size w W0 := by rw [hW0]; exact ((Below.refl _ _).alloc (Nat.le_refl _) _).alloc (by simp) _
  have bS0 : W0.heap[w.heap.size]? = some (.cells #[.pointer (some ⟨s, 0, none⟩)] 31 (0, 0)) := by rw [hW0]; exact two_a _ _ _
  have bX0 : W0.heap[w.heap.size + 1]? = some (.cells #[.string tk0, .string au, .int .i64 role, .int .i64 ends, .int .i64 quota, .int .i64 used, .int .i64 left, .int .i64 at_] 36 (0, 0)) := by rw [hW0]; exact two_b _ _ _
  have cH := Hex_ok W0 A c dr (hdr.below hb0) hdl
  have HH := Lib.hid h; have HLL := Lib.hid hL; have HB0 := Lib.hid hb0; have BS0 := Lib.hid bS0; have BX0 := Lib.hid bX0; have CH := Lib.hid cH; have HW0 := Lib.hid hW0; have HR := Lib.hid hrole; have HK := Lib.hid hk
  obtain ⟨nd, hnd⟩ : ∃ nd : Nat, dr.length = nd := ⟨_, rfl⟩
  have HND := Lib.hid hnd
  clear h hL hb0 bS0 bX0 cH hW0 hrole hk hdr hdl
  rw [hnd] at CH ⊢
  clear hnd
  go_enter Tryz.func16, Tryz.ntmps16
  go_wp2_with fail
  rw [← HW0.out]
  refine CH.out.mono ?_
  rintro e w1 ⟨rfl, hb1⟩
  have hbs : (⟨(hexB dr).toArray⟩ : ByteArray) = bs (hexB dr) := rfl
  rw [hbs]
  have b01 := HB0.out.trans (hb1.mono HB0.out.size)
  have bS1 := heap_below BS0.out hb1
  have bX1 := heap_below BX0.out hb1
  have hb2 : Below w.heap.size w (w1.alloc (.cells #[.string (bs (hexB dr))] 9)) := b01.alloc b01.size _
  have bS2 := (Below.heap_alloc w1 (.cells #[.string (bs (hexB dr))] 9) _ (lt_of_heap bS1)).trans bS1
  have bX2 := (Below.heap_alloc w1 (.cells #[.string (bs (hexB dr))] 9) _ (lt_of_heap bX1)).trans bX1
  have bT2 := heap_alloc_new w1 (.cells #[.string (bs (hexB dr))] 9)
  have hxt : w.heap.size + 1 < w1.heap.size := lt_of_heap bX1
  have HXT := Lib.hid hxt
  clear hbs hb1 b01 bS1 bX1 hxt
  generalize htk : hexB dr = tk at *
  have HTK := Lib.hid htk
  clear htk
  dsimp only
  go_wp2_with fail
  obtain ⟨w2, hw2⟩ : ∃ w2, w2 = w1.alloc (.cells #[.string (bs tk)] 9) := ⟨_, rfl⟩
  rw [← hw2] at hb2 bS2 bX2 bT2 ⊢
  clear hw2
  obtain ⟨tb, htb⟩ : ∃ tb, tb = w1.heap.size := ⟨_, rfl⟩
  rw [← htb] at bT2 HXT ⊢
  obtain ⟨S, hSd⟩ : ∃ S : World → Prop, ∀ w', S w' ↔ (w'.cell? ⟨w.heap.size, 0, none⟩ = some (.pointer (some ⟨s, 0, none⟩)) ∧ w'.cell? ⟨w.heap.size + 1, 1, none⟩ = some (.string au) ∧ w'.cell? ⟨w.heap.size + 1, 2, none⟩ = some (.int .i64 role) ∧ w'.cell? ⟨w.heap.size + 1, 3, none⟩ = some (.int .i64 ends) ∧ w'.cell? ⟨w.heap.size + 1, 4, none⟩ = some (.int .i64 quota) ∧ w'.cell? ⟨w.heap.size + 1, 7, none⟩ = some (.int .i64 at_)) := ⟨_, fun _ => Iff.rfl⟩
  have mkS : ∀ w', Below w2.heap.size w2 w' → S w' := fun w' hb => by
    have e1 := heap_below bS2 hb
    have e2 := heap_below bX2 hb
    refine (hSd _).2 ⟨?_, ?_, ?_, ?_, ?_, ?_⟩
    · rw [World.cell?]; simp only [e1]; rfl
    · rw [World.cell?]; simp only [e2]; rfl
    · rw [World.cell?]; simp only [e2]; rfl
    · rw [World.cell?]; simp only [e2]; rfl
    · rw [World.cell?]; simp only [e2]; rfl
    · rw [World.cell?]; simp only [e2]; rfl
  have hS : S w2.drew := mkS _ (Below.refl _ _).drew
  have HSd := Lib.hid hSd; have MKS := Lib.hid mkS; have HB2 := Lib.hid hb2; have BS2 := Lib.hid bS2; have BX2 := Lib.hid bX2; have BT2 := Lib.hid bT2
  have htl : tb < w2.heap.size := lt_of_heap bT2
  have HTL := Lib.hid htl
  clear hSd mkS hb2 bS2 bX2 bT2 htb htl
  cases he : decide (0 ≤ ends ∧ ends ≤ 1125899906842624) with
  | false =>
    refine wp_region_I (by kernel_rfl) S 99 ?_
    refine wpAnyS_take 0 (v := ?_) rfl (by kernel_rfl) (by kernel_rfl) (by kernel_rfl) rfl (fun _ _ _ h => h) (.inl ⟨rfl, fun w' hS' => ?_⟩) hS ?_; rotate_left 1; focus (have hf := (HSd.out w').1 hS'; (repeat (obtain ⟨_, hf⟩ := hf)); go_simp; (try rfl))
    refine wpAnyS_take 4 (v := ?_) rfl (by kernel_rfl) (by kernel_rfl) (by kernel_rfl) rfl (fun _ _ _ h => h) (.inl ⟨rfl, fun w' hS' => ?_⟩) hS ?_; rotate_left 1; focus (have hf := (HSd.out w').1 hS'; (repeat (obtain ⟨_, hf⟩ := hf)); go_simp; (try rfl))
    refine wpAnyS_take 5 (v := ?_) rfl (by kernel_rfl) (by kernel_rfl) (by kernel_rfl) rfl (fun _ _ _ h => h) (.inl ⟨rfl, fun w' hS' => ?_⟩) hS ?_; rotate_left 1; focus (have hf := (HSd.out w').1 hS'; (repeat (obtain ⟨_, hf⟩ := hf)); go_simp; (try rfl))
    refine wpAnyS_take 6 (v := ?_) rfl (by kernel_rfl) (by kernel_rfl) (by kernel_rfl) rfl (fun _ _ _ h => h) (.inl ⟨rfl, fun w' hS' => ?_⟩) hS ?_; rotate_left 1; focus (have hf := (HSd.out w').1 hS'; (repeat (obtain ⟨_, hf⟩ := hf)); go_simp; (try rfl))
    refine wpAnyS_take 8 (v := ?_) rfl (by kernel_rfl) (by kernel_rfl) (by kernel_rfl) rfl (fun _ _ _ h => h) (.inl ⟨rfl, fun w' hS' => ?_⟩) hS ?_; rotate_left 1; focus (have hf := (HSd.out w').1 hS'; (repeat (obtain ⟨_, hf⟩ := hf)); go_simp; (try rfl))
    refine wpAnyS_take 9 (v := ?_) rfl (by kernel_rfl) (by kernel_rfl) (by kernel_rfl) rfl (fun _ _ _ h => h) (.inl ⟨rfl, fun w' hS' => ?_⟩) hS ?_; rotate_left 1; focus (have hf := (HSd.out w').1 hS'; (repeat (obtain ⟨_, hf⟩ := hf)); go_simp; (try rfl))
    refine wpAnyS_take 12 (v := ?_) rfl (by kernel_rfl) (by kernel_rfl) (by kernel_rfl) rfl (fun _ _ _ h => h) (.inl ⟨rfl, fun w' hS' => ?_⟩) hS ?_; rotate_left 1; focus (have hf := (HSd.out w').1 hS'; (repeat (obtain ⟨_, hf⟩ := hf)); go_simp; (try rfl))
    refine wpAnyS_take 13 (v := ?_) rfl (by kernel_rfl) (by kernel_rfl) (by kernel_rfl) rfl (fun _ _ _ h => h) (.inl ⟨rfl, fun w' hS' => ?_⟩) hS ?_; rotate_left 1; focus (have hf := (HSd.out w').1 hS'; (repeat (obtain ⟨_, hf⟩ := hf)); go_simp; (try rfl))
    refine wpAnyS_take 14 (v := ?_) rfl (by kernel_rfl) (by kernel_rfl) (by kernel_rfl) rfl (fun _ _ _ h => h) (.inl ⟨rfl, fun w' hS' => ?_⟩) hS ?_; rotate_left 1; focus (have hf := (HSd.out w').1 hS'; (repeat (obtain ⟨_, hf⟩ := hf)); go_simp; (try rfl))
    refine wpAnyS_take 17 (v := ?_) rfl (by kernel_rfl) (by kernel_rfl) (by kernel_rfl) rfl (fun _ _ _ h => h) (.inl ⟨rfl, fun w' hS' => ?_⟩) hS ?_; rotate_left 1; focus (have hf := (HSd.out w').1 hS'; (repeat (obtain ⟨_, hf⟩ := hf)); go_simp; (try rfl))
    refine wpAnyS_take 18 (v := ?_) rfl (by kernel_rfl) (by kernel_rfl) (by kernel_rfl) rfl (fun _ _ _ h => h) (.inl ⟨rfl, fun w' hS' => ?_⟩) hS ?_; rotate_left 1; focus (have hf := (HSd.out w').1 hS'; (repeat (obtain ⟨_, hf⟩ := hf)); go_simp; (try rfl))
    refine wpAnyS_take 31 (v := ?_) rfl (by kernel_rfl) (by kernel_rfl) (by kernel_rfl) rfl (fun _ _ _ h => h) (.inl ⟨rfl, fun w' hS' => ?_⟩) hS ?_; rotate_left 1; focus (have hf := (HSd.out w').1 hS'; (repeat (obtain ⟨_, hf⟩ := hf)); go_simp; (try rfl))
    refine wpAnyS_take 32 (v := ?_) rfl (by kernel_rfl) (by kernel_rfl) (by kernel_rfl) rfl (fun _ _ _ h => h) (.inl ⟨rfl, fun w' hS' => ?_⟩) hS ?_; rotate_left 1; focus (have hf := (HSd.out w').1 hS'; (repeat (obtain ⟨_, hf⟩ := hf)); go_simp; (try rfl))
    refine wpAnyI_one 1 (by kernel_rfl) (wpOp_step rfl (fun K hK => ?_)); go_simp
    refine (Dead_ok w2.drew s t p b (kvOf L) (HH.out.st.below (HB2.out.trans ((Below.refl _ _).drew.mono HB2.out.size)))).mono ?_
    rintro e w3 ⟨rfl, hw⟩
    have b3 : Below w2.heap.size w2 w3 := by rw [← hw]; exact (Below.refl _ _).drew
    clear hw
    have hS := MKS.out _ b3
    refine hK _ _ ⟨fun _ => hS, ?_⟩
    clear hK K
    refine wpAnyS_take 2 (v := ?_) rfl (by kernel_rfl) (by kernel_rfl) (by kernel_rfl) rfl (fun _ _ _ h => h) (.inl ⟨rfl, fun w' hS' => ?_⟩) hS ?_; rotate_left 1; focus (have hf := (HSd.out w').1 hS'; (repeat (obtain ⟨_, hf⟩ := hf)); go_simp; (try rfl))
    refine wpAnyI_one 3 (by kernel_rfl) (wpOp_step rfl (fun K hK => ?_)); go_simp
    refine (when_at w3 _ 151).mono ?_
    rintro e w4 ⟨rfl, f0, hg⟩
    have b4 := b3.trans (hg.mono b3.size)
    have hS := MKS.out _ b4
    clear hg
    refine hK _ _ ⟨fun _ => hS, ?_⟩
    clear hK K
    refine wpAnyI_one 7 (by kernel_rfl) (wpOp_step rfl (fun K hK => ?_)); go_simp
    refine (when_at w4 _ 1).mono ?_
    rintro e w5 ⟨rfl, f1, hg⟩
    have b5 := b4.trans (hg.mono b4.size)
    have f0 := f0.below hg
    have hS := MKS.out _ b5
    clear hg
    refine hK _ _ ⟨fun _ => hS, ?_⟩
    clear hK K
    refine wpAnyI_one 10 (by kernel_rfl) (wpOp_step rfl (fun K hK => ?_)); go_simp
    refine (Name_ok w5 au hau).mono ?_
    rintro e w5' ⟨rfl, rfl⟩
    refine hK _ _ ⟨fun _ => hS, ?_⟩
    clear hK K
    refine wpAnyI_one 11 (by kernel_rfl) (wpOp_step rfl (fun K hK => ?_)); go_simp
    refine (when_at w5' _ 171).mono ?_
    rintro e w6 ⟨rfl, f2, hg⟩
    have b6 := b5.trans (hg.mono b5.size)
    have f0 := f0.below hg
    have f1 := f1.below hg
    have hS := MKS.out _ b6
    clear hg
    refine hK _ _ ⟨fun _ => hS, ?_⟩
    clear hK K
    refine wpAnyI_one 15 (by kernel_rfl) (wpOp_step rfl (fun K hK => ?_)); go_simp
    refine (within_ok w6 _ _).mono ?_
    rintro e w6' ⟨rfl, rfl⟩
    refine hK _ _ ⟨fun _ => hS, ?_⟩
    clear hK K
    refine wpAnyI_one 16 (by kernel_rfl) (wpOp_step rfl (fun K hK => ?_)); go_simp
    refine (when_at w6 _ 192).mono ?_
    rintro e w7 ⟨rfl, f3, hg⟩
    have b7 := b6.trans (hg.mono b6.size)
    have f0 := f0.below hg
    have f1 := f1.below hg
    have f2 := f2.below hg
    have hS := MKS.out _ b7
    clear hg
    refine hK _ _ ⟨fun _ => hS, ?_⟩
    clear hK K
    refine wpAnyI_one 19 (by kernel_rfl) (wpOp_step rfl (fun K hK => ?_)); go_simp
    refine (within_ok w7 _ _).mono ?_
    rintro e w7' ⟨rfl, rfl⟩
    rw [he]
    refine hK _ _ ⟨fun _ => hS, ?_⟩
    clear hK K
    refine wpAnyS_take 20 (v := ?_) rfl (by kernel_rfl) (by kernel_rfl) (by kernel_rfl) rfl (fun _ _ _ h => h) (.inl ⟨rfl, fun w' hS' => ?_⟩) hS ?_; rotate_left 1; focus (have hf := (HSd.out w').1 hS'; (repeat (obtain ⟨_, hf⟩ := hf)); go_simp; (try rfl))
    refine wpAnyS_take 21 (v := undef) rfl (by kernel_rfl) (by kernel_rfl) (by kernel_rfl) rfl (fun _ _ _ h => h) (.inr ⟨rfl, rfl⟩) hS ?_
    refine wpAnyS_take 22 (v := undef) rfl (by kernel_rfl) (by kernel_rfl) (by kernel_rfl) rfl (fun _ _ _ h => h) (.inr ⟨rfl, rfl⟩) hS ?_
    refine wpAnyI_one 23 (by kernel_rfl) (wpOp_step rfl (fun K hK => ?_)); go_simp
    refine hK _ _ ⟨fun _ => hS, ?_⟩
    clear hK K
    refine wpAnyS_take 24 (v := ?_) rfl (by kernel_rfl) (by kernel_rfl) (by kernel_rfl) rfl (fun _ _ _ h => h) (.inl ⟨rfl, fun w' hS' => ?_⟩) hS ?_; rotate_left 1; focus (have hf := (HSd.out w').1 hS'; (repeat (obtain ⟨_, hf⟩ := hf)); go_simp; (try rfl))
    refine wpAnyS_take 25 (v := ?_) rfl (by kernel_rfl) (by kernel_rfl) (by kernel_rfl) rfl (fun _ _ _ h => h) (.inl ⟨rfl, fun w' hS' => ?_⟩) hS ?_; rotate_left 1; focus (have hf := (HSd.out w').1 hS'; (repeat (obtain ⟨_, hf⟩ := hf)); go_simp; (try rfl))
    refine wpAnyS_take 26 (v := undef) rfl (by kernel_rfl) (by kernel_rfl) (by kernel_rfl) rfl (fun _ _ _ h => h) (.inr ⟨rfl, rfl⟩) hS ?_
    refine wpAnyS_take 27 (v := undef) rfl (by kernel_rfl) (by kernel_rfl) (by kernel_rfl) rfl (fun _ _ _ h => h) (.inr ⟨rfl, rfl⟩) hS ?_
    refine wpAnyI_one 28 (by kernel_rfl) (wpOp_step rfl (fun K hK => ?_)); go_simp
    refine hK _ _ ⟨fun _ => hS, ?_⟩
    clear hK K
    refine wpAnyS_take 29 (v := ?_) rfl (by kernel_rfl) (by kernel_rfl) (by kernel_rfl) rfl (fun _ _ _ h => h) (.inl ⟨rfl, fun w' hS' => ?_⟩) hS ?_; rotate_left 1; focus (have hf := (HSd.out w').1 hS'; (repeat (obtain ⟨_, hf⟩ := hf)); go_simp; (try rfl))
    refine wpAnyI_one 30 (by kernel_rfl) (wpOp_step rfl (fun K hK => ?_)); go_simp
    refine (when_at w7 _ 1).mono ?_
    rintro e w8 ⟨rfl, f4, hg⟩
    have b8 := b7.trans (hg.mono b7.size)
    have f0 := f0.below hg
    have f1 := f1.below hg
    have f2 := f2.below hg
    have f3 := f3.below hg
    have hS := MKS.out _ b8
    clear hg
    refine hK _ _ ⟨fun _ => hS, ?_⟩
    clear hK K
    refine wpAnyI_one 33 (by kernel_rfl) (wpOp_step rfl (fun K hK => ?_)); go_simp
    obtain ⟨row, hrow⟩ : ∃ row : Array Value, row = #[.func (.func 92) #[] #[pt w3.heap.size, pt (w3.heap.size + 1)], .func (.func 92) #[] #[pt w4.heap.size, pt (w4.heap.size + 1)], .func (.func 92) #[] #[pt w5'.heap.size, pt (w5'.heap.size + 1)], .func (.func 92) #[] #[pt w6.heap.size, pt (w6.heap.size + 1)], .func (.func 92) #[] #[pt w7.heap.size, pt (w7.heap.size + 1)], .func (.func 44) #[] #[pt w.heap.size, pt tb], .func (.func 46) #[] #[pt w.heap.size]] := ⟨_, rfl⟩
    have hS := MKS.out _ (b8.alloc b8.size (.cells row 76))
    rw [hrow] at hS
    refine hK _ _ ⟨fun _ => hS, ?_⟩
    clear hK K
    have b9 : Below w2.heap.size w2 (w8.alloc (.cells row 76)) := b8.alloc b8.size _
    have hg89 : Below w8.heap.size w8 (w8.alloc (.cells row 76)) := (Below.refl _ _).alloc (Nat.le_refl _) _
    have hgr := heap_alloc_new w8 (.cells row 76)
    have hbw : Below w.heap.size w (w8.alloc (.cells row 76)) := HB2.out.trans (b9.mono HB2.out.size)
    refine wpAnyI_one 34 (by kernel_rfl) (wpOp_step rfl (fun K hK => ?_)); go_simp
    have cF := Issue_first (w8.alloc (.cells row 76)) s t p b L tk nd au.data.toList role ends quota at_ w.heap.size tb w8.heap.size w3.heap.size (w3.heap.size + 1) w4.heap.size (w4.heap.size + 1) w5'.heap.size (w5'.heap.size + 1) w6.heap.size (w6.heap.size + 1) w7.heap.size (w7.heap.size + 1) _ _
      (HH.out.below hbw) HLL.out (fun hn => by rw [← HTK.out]; exact tok_of_hex dr (by rw [HND.out]; exact hn)) (by first | rfl | (apply Bool.eq_iff_iff.2; simp; omega) | (apply Bool.eq_iff_iff.2; simp)) rfl (role_wrap HR.out) (by rw [he]; rfl)
      (heap_below BS2.out b9) (heap_below BT2.out b9) (f0.below hg89) (f1.below hg89) (f2.below hg89) (f3.below hg89) (f4.below hg89) (by rw [hgr, hrow])
    rw [hrow] at cF
    refine cF.mono ?_
    rintro e w9 ⟨rfl, hb9⟩
    rw [← hrow] at hb9
    have hgg := b9.trans (hb9.mono b9.size)
    have hS := MKS.out _ hgg
    have hwF := HB2.out.trans (hgg.mono HB2.out.size)
    have HGG := Lib.hid hgg; have HWF := Lib.hid hwF
    clear cF hb9 hgg hwF hgr hg89 b9 b8 b7 b6 b5 b4 b3 f0 f1 f2 f3 f4 hrow hbw
    refine hK _ _ ⟨fun _ => hS, ?_⟩
    clear hK K
    refine wpAnyS_take 35 (v := ?_) rfl (by kernel_rfl) (by kernel_rfl) (by kernel_rfl) rfl (fun _ _ _ h => h) (.inl ⟨rfl, fun w' hS' => ?_⟩) hS ?_; rotate_left 1; focus (have hf := (HSd.out w').1 hS'; (repeat (obtain ⟨_, hf⟩ := hf)); go_simp; (try rfl))
    refine wpAnyI_done (by kernel_rfl) ?_ _
    have hR : issueR L dr au role ends quota at_ = issueC L nd tk au.data.toList role ends quota at_ := by unfold issueR; rw [HND.out, HTK.out]
    have HRR := Lib.hid hR
    clear hR
    by_cases hcode : issueC L nd tk au.data.toList role ends quota at_ = 0
    · obtain ⟨q1, q2, q3, q4, q5, q6, q7, q8⟩ := issue_facts hcode
      have ht : isTok tk = true := by rw [← HTK.out]; exact tok_of_hex dr (by rw [HND.out]; exact q1)
      obtain ⟨s0, s1, s2, s3, s4, s7⟩ := (HSd.out _).1 hS
      have t9 := heap_below BT2.out HGG.out
      have tc9 : w9.cell? ⟨tb, 0, none⟩ = some (.string (bs tk)) := by rw [World.cell?]; simp only [t9]; rfl
      have cS := save_ok w9 s t p b (kvOf L) tk (newS au role ends quota at_) (HH.out.st.below HWF.out) ht q4.ok
      have hcells : sessC (bs tk) (newS au role ends quota at_) = #[.string (bs tk), .string au, .int .i64 role, .int .i64 ends, .int .i64 quota, .int .i64 0, .int .i64 20, .int .i64 at_] := by
        unfold sessC newS
        simp only
        rw [Int.toNat_of_nonneg (by omega : 0 ≤ role), Int.toNat_of_nonneg q6, Int.toNat_of_nonneg q7, Int.toNat_of_nonneg q8]
        rfl
      rw [hcells, put_kv] at cS
      have hbt : b ≠ tb := by have := HH.out.st.lb; have := HXT.out; omega
      have CS := Lib.hid cS; have HT := Lib.hid ht; have HQ4 := Lib.hid q4; have T9 := Lib.hid t9; have HBT := Lib.hid hbt; have HC := Lib.hid hcode
      clear hcells cS q4 q2 t9 hbt ht
      rw [hcode]
      clear hcode
      go_simp
      go_wp2_with fail
      refine CS.out.mono ?_
      rintro e w10 ⟨rfl, hs10, hk10⟩
      have t10 := heap_kp0 T9.out hk10 (Ne.symm HBT.out)
      have tc10 : w10.cell? ⟨tb, 0, none⟩ = some (.string (bs tk)) := by rw [World.cell?]; simp only [t10]; rfl
      have HS10 := Lib.hid hs10; have HK10 := Lib.hid ((Kp.of_below HWF.out (· = b)).trans hk10)
      clear hs10 hk10 t10 tc9 s0 s1 s2 s3 s4 s7
      dsimp only
      go_wp2_with fail
      refine (Cookie_ok w10 key (bs tk) HK.out (by rw [bs_size, tok_len tk HT.out]; decide)).mono ?_
      rintro e w11 ⟨rfl, hb11⟩
      have hce : cookieE key.data.toList (bs tk).data.toList = .returned (.tuple #[.string (bs (cookieB key.data.toList tk)), .int .i64 0]) := by
        unfold cookieE cookieO; rw [bs_list, if_pos HT.out]
      rw [hce]
      have HB11 := Lib.hid hb11
      clear hb11 hce
      dsimp only
      go_wp2_with fail
      go_ret2
      refine ⟨?_, ?_, HK10.out.trans (Kp.of_below HB11.out _)⟩
      · unfold issueE; rw [HRR.out, if_pos HC.out, HTK.out]; rfl
      · unfold issueS; rw [HRR.out, if_pos HC.out, HTK.out]
        exact ⟨HS10.out.below HB11.out, HH.out.ok.put HT.out HQ4.out⟩
    · have HC := Lib.hid hcode
      generalize hcv : issueC L nd tk au.data.toList role ends quota at_ = cv at *
      clear hcode
      have hcv0 : cv ≠ 0 := HC.out
      go_simp
      go_wp2_with fail
      go_ret2
      refine ⟨?_, ?_, Kp.of_below HWF.out _⟩
      · unfold issueE; rw [HRR.out, if_neg HC.out]; rfl
      · unfold issueS; rw [HRR.out, if_neg HC.out]; exact HH.out.below HWF.out
  | true =>
    cases hq : decide (0 ≤ quota ∧ quota ≤ 1099511627776) with
    | false =>
      refine wp_region_I (by kernel_rfl) S 99 ?_
      refine wpAnyS_take 0 (v := ?_) rfl (by kernel_rfl) (by kernel_rfl) (by kernel_rfl) rfl (fun _ _ _ h => h) (.inl ⟨rfl, fun w' hS' => ?_⟩) hS ?_; rotate_left 1; focus (have hf := (HSd.out w').1 hS'; (repeat (obtain ⟨_, hf⟩ := hf)); go_simp; (try rfl))
      refine wpAnyS_take 4 (v := ?_) rfl (by kernel_rfl) (by kernel_rfl) (by kernel_rfl) rfl (fun _ _ _ h => h) (.inl ⟨rfl, fun w' hS' => ?_⟩) hS ?_; rotate_left 1; focus (have hf := (HSd.out w').1 hS'; (repeat (obtain ⟨_, hf⟩ := hf)); go_simp; (try rfl))
      refine wpAnyS_take 5 (v := ?_) rfl (by kernel_rfl) (by kernel_rfl) (by kernel_rfl) rfl (fun _ _ _ h => h) (.inl ⟨rfl, fun w' hS' => ?_⟩) hS ?_; rotate_left 1; focus (have hf := (HSd.out w').1 hS'; (repeat (obtain ⟨_, hf⟩ := hf)); go_simp; (try rfl))
      refine wpAnyS_take 6 (v := ?_) rfl (by kernel_rfl) (by kernel_rfl) (by kernel_rfl) rfl (fun _ _ _ h => h) (.inl ⟨rfl, fun w' hS' => ?_⟩) hS ?_; rotate_left 1; focus (have hf := (HSd.out w').1 hS'; (repeat (obtain ⟨_, hf⟩ := hf)); go_simp; (try rfl))
      refine wpAnyS_take 8 (v := ?_) rfl (by kernel_rfl) (by kernel_rfl) (by kernel_rfl) rfl (fun _ _ _ h => h) (.inl ⟨rfl, fun w' hS' => ?_⟩) hS ?_; rotate_left 1; focus (have hf := (HSd.out w').1 hS'; (repeat (obtain ⟨_, hf⟩ := hf)); go_simp; (try rfl))
      refine wpAnyS_take 9 (v := ?_) rfl (by kernel_rfl) (by kernel_rfl) (by kernel_rfl) rfl (fun _ _ _ h => h) (.inl ⟨rfl, fun w' hS' => ?_⟩) hS ?_; rotate_left 1; focus (have hf := (HSd.out w').1 hS'; (repeat (obtain ⟨_, hf⟩ := hf)); go_simp; (try rfl))
      refine wpAnyS_take 12 (v := ?_) rfl (by kernel_rfl) (by kernel_rfl) (by kernel_rfl) rfl (fun _ _ _ h => h) (.inl ⟨rfl, fun w' hS' => ?_⟩) hS ?_; rotate_left 1; focus (have hf := (HSd.out w').1 hS'; (repeat (obtain ⟨_, hf⟩ := hf)); go_simp; (try rfl))
      refine wpAnyS_take 13 (v := ?_) rfl (by kernel_rfl) (by kernel_rfl) (by kernel_rfl) rfl (fun _ _ _ h => h) (.inl ⟨rfl, fun w' hS' => ?_⟩) hS ?_; rotate_left 1; focus (have hf := (HSd.out w').1 hS'; (repeat (obtain ⟨_, hf⟩ := hf)); go_simp; (try rfl))
      refine wpAnyS_take 14 (v := ?_) rfl (by kernel_rfl) (by kernel_rfl) (by kernel_rfl) rfl (fun _ _ _ h => h) (.inl ⟨rfl, fun w' hS' => ?_⟩) hS ?_; rotate_left 1; focus (have hf := (HSd.out w').1 hS'; (repeat (obtain ⟨_, hf⟩ := hf)); go_simp; (try rfl))
      refine wpAnyS_take 17 (v := ?_) rfl (by kernel_rfl) (by kernel_rfl) (by kernel_rfl) rfl (fun _ _ _ h => h) (.inl ⟨rfl, fun w' hS' => ?_⟩) hS ?_; rotate_left 1; focus (have hf := (HSd.out w').1 hS'; (repeat (obtain ⟨_, hf⟩ := hf)); go_simp; (try rfl))
      refine wpAnyS_take 18 (v := ?_) rfl (by kernel_rfl) (by kernel_rfl) (by kernel_rfl) rfl (fun _ _ _ h => h) (.inl ⟨rfl, fun w' hS' => ?_⟩) hS ?_; rotate_left 1; focus (have hf := (HSd.out w').1 hS'; (repeat (obtain ⟨_, hf⟩ := hf)); go_simp; (try rfl))
      refine wpAnyS_take 31 (v := ?_) rfl (by kernel_rfl) (by kernel_rfl) (by kernel_rfl) rfl (fun _ _ _ h => h) (.inl ⟨rfl, fun w' hS' => ?_⟩) hS ?_; rotate_left 1; focus (have hf := (HSd.out w').1 hS'; (repeat (obtain ⟨_, hf⟩ := hf)); go_simp; (try rfl))
      refine wpAnyS_take 32 (v := ?_) rfl (by kernel_rfl) (by kernel_rfl) (by kernel_rfl) rfl (fun _ _ _ h => h) (.inl ⟨rfl, fun w' hS' => ?_⟩) hS ?_; rotate_left 1; focus (have hf := (HSd.out w').1 hS'; (repeat (obtain ⟨_, hf⟩ := hf)); go_simp; (try rfl))
      refine wpAnyI_one 1 (by kernel_rfl) (wpOp_step rfl (fun K hK => ?_)); go_simp
      refine (Dead_ok w2.drew s t p b (kvOf L) (HH.out.st.below (HB2.out.trans ((Below.refl _ _).drew.mono HB2.out.size)))).mono ?_
      rintro e w3 ⟨rfl, hw⟩
      have b3 : Below w2.heap.size w2 w3 := by rw [← hw]; exact (Below.refl _ _).drew
      clear hw
      have hS := MKS.out _ b3
      refine hK _ _ ⟨fun _ => hS, ?_⟩
      clear hK K
      refine wpAnyS_take 2 (v := ?_) rfl (by kernel_rfl) (by kernel_rfl) (by kernel_rfl) rfl (fun _ _ _ h => h) (.inl ⟨rfl, fun w' hS' => ?_⟩) hS ?_; rotate_left 1; focus (have hf := (HSd.out w').1 hS'; (repeat (obtain ⟨_, hf⟩ := hf)); go_simp; (try rfl))
      refine wpAnyI_one 3 (by kernel_rfl) (wpOp_step rfl (fun K hK => ?_)); go_simp
      refine (when_at w3 _ 151).mono ?_
      rintro e w4 ⟨rfl, f0, hg⟩
      have b4 := b3.trans (hg.mono b3.size)
      have hS := MKS.out _ b4
      clear hg
      refine hK _ _ ⟨fun _ => hS, ?_⟩
      clear hK K
      refine wpAnyI_one 7 (by kernel_rfl) (wpOp_step rfl (fun K hK => ?_)); go_simp
      refine (when_at w4 _ 1).mono ?_
      rintro e w5 ⟨rfl, f1, hg⟩
      have b5 := b4.trans (hg.mono b4.size)
      have f0 := f0.below hg
      have hS := MKS.out _ b5
      clear hg
      refine hK _ _ ⟨fun _ => hS, ?_⟩
      clear hK K
      refine wpAnyI_one 10 (by kernel_rfl) (wpOp_step rfl (fun K hK => ?_)); go_simp
      refine (Name_ok w5 au hau).mono ?_
      rintro e w5' ⟨rfl, rfl⟩
      refine hK _ _ ⟨fun _ => hS, ?_⟩
      clear hK K
      refine wpAnyI_one 11 (by kernel_rfl) (wpOp_step rfl (fun K hK => ?_)); go_simp
      refine (when_at w5' _ 171).mono ?_
      rintro e w6 ⟨rfl, f2, hg⟩
      have b6 := b5.trans (hg.mono b5.size)
      have f0 := f0.below hg
      have f1 := f1.below hg
      have hS := MKS.out _ b6
      clear hg
      refine hK _ _ ⟨fun _ => hS, ?_⟩
      clear hK K
      refine wpAnyI_one 15 (by kernel_rfl) (wpOp_step rfl (fun K hK => ?_)); go_simp
      refine (within_ok w6 _ _).mono ?_
      rintro e w6' ⟨rfl, rfl⟩
      refine hK _ _ ⟨fun _ => hS, ?_⟩
      clear hK K
      refine wpAnyI_one 16 (by kernel_rfl) (wpOp_step rfl (fun K hK => ?_)); go_simp
      refine (when_at w6 _ 192).mono ?_
      rintro e w7 ⟨rfl, f3, hg⟩
      have b7 := b6.trans (hg.mono b6.size)
      have f0 := f0.below hg
      have f1 := f1.below hg
      have f2 := f2.below hg
      have hS := MKS.out _ b7
      clear hg
      refine hK _ _ ⟨fun _ => hS, ?_⟩
      clear hK K
      refine wpAnyI_one 19 (by kernel_rfl) (wpOp_step rfl (fun K hK => ?_)); go_simp
      refine (within_ok w7 _ _).mono ?_
      rintro e w7' ⟨rfl, rfl⟩
      rw [he]
      refine hK _ _ ⟨fun _ => hS, ?_⟩
      clear hK K
      refine wpAnyS_take 20 (v := ?_) rfl (by kernel_rfl) (by kernel_rfl) (by kernel_rfl) rfl (fun _ _ _ h => h) (.inl ⟨rfl, fun w' hS' => ?_⟩) hS ?_; rotate_left 1; focus (have hf := (HSd.out w').1 hS'; (repeat (obtain ⟨_, hf⟩ := hf)); go_simp; (try rfl))
      refine wpAnyS_take 21 (v := ?_) rfl (by kernel_rfl) (by kernel_rfl) (by kernel_rfl) rfl (fun _ _ _ h => h) (.inl ⟨rfl, fun w' hS' => ?_⟩) hS ?_; rotate_left 1; focus (have hf := (HSd.out w').1 hS'; (repeat (obtain ⟨_, hf⟩ := hf)); go_simp; (try rfl))
      refine wpAnyS_take 22 (v := ?_) rfl (by kernel_rfl) (by kernel_rfl) (by kernel_rfl) rfl (fun _ _ _ h => h) (.inl ⟨rfl, fun w' hS' => ?_⟩) hS ?_; rotate_left 1; focus (have hf := (HSd.out w').1 hS'; (repeat (obtain ⟨_, hf⟩ := hf)); go_simp; (try rfl))
      refine wpAnyI_one 23 (by kernel_rfl) (wpOp_step rfl (fun K hK => ?_)); go_simp
      refine (within_ok w7 _ _).mono ?_
      rintro e w7' ⟨rfl, rfl⟩
      rw [hq]
      refine hK _ _ ⟨fun _ => hS, ?_⟩
      clear hK K
      refine wpAnyS_take 24 (v := ?_) rfl (by kernel_rfl) (by kernel_rfl) (by kernel_rfl) rfl (fun _ _ _ h => h) (.inl ⟨rfl, fun w' hS' => ?_⟩) hS ?_; rotate_left 1; focus (have hf := (HSd.out w').1 hS'; (repeat (obtain ⟨_, hf⟩ := hf)); go_simp; (try rfl))
      refine wpAnyS_take 25 (v := ?_) rfl (by kernel_rfl) (by kernel_rfl) (by kernel_rfl) rfl (fun _ _ _ h => h) (.inl ⟨rfl, fun w' hS' => ?_⟩) hS ?_; rotate_left 1; focus (have hf := (HSd.out w').1 hS'; (repeat (obtain ⟨_, hf⟩ := hf)); go_simp; (try rfl))
      refine wpAnyS_take 26 (v := undef) rfl (by kernel_rfl) (by kernel_rfl) (by kernel_rfl) rfl (fun _ _ _ h => h) (.inr ⟨rfl, rfl⟩) hS ?_
      refine wpAnyS_take 27 (v := undef) rfl (by kernel_rfl) (by kernel_rfl) (by kernel_rfl) rfl (fun _ _ _ h => h) (.inr ⟨rfl, rfl⟩) hS ?_
      refine wpAnyI_one 28 (by kernel_rfl) (wpOp_step rfl (fun K hK => ?_)); go_simp
      refine hK _ _ ⟨fun _ => hS, ?_⟩
      clear hK K
      refine wpAnyS_take 29 (v := ?_) rfl (by kernel_rfl) (by kernel_rfl) (by kernel_rfl) rfl (fun _ _ _ h => h) (.inl ⟨rfl, fun w' hS' => ?_⟩) hS ?_; rotate_left 1; focus (have hf := (HSd.out w').1 hS'; (repeat (obtain ⟨_, hf⟩ := hf)); go_simp; (try rfl))
      refine wpAnyI_one 30 (by kernel_rfl) (wpOp_step rfl (fun K hK => ?_)); go_simp
      refine (when_at w7 _ 1).mono ?_
      rintro e w8 ⟨rfl, f4, hg⟩
      have b8 := b7.trans (hg.mono b7.size)
      have f0 := f0.below hg
      have f1 := f1.below hg
      have f2 := f2.below hg
      have f3 := f3.below hg
      have hS := MKS.out _ b8
      clear hg
      refine hK _ _ ⟨fun _ => hS, ?_⟩
      clear hK K
      refine wpAnyI_one 33 (by kernel_rfl) (wpOp_step rfl (fun K hK => ?_)); go_simp
      obtain ⟨row, hrow⟩ : ∃ row : Array Value, row = #[.func (.func 92) #[] #[pt w3.heap.size, pt (w3.heap.size + 1)], .func (.func 92) #[] #[pt w4.heap.size, pt (w4.heap.size + 1)], .func (.func 92) #[] #[pt w5'.heap.size, pt (w5'.heap.size + 1)], .func (.func 92) #[] #[pt w6.heap.size, pt (w6.heap.size + 1)], .func (.func 92) #[] #[pt w7.heap.size, pt (w7.heap.size + 1)], .func (.func 44) #[] #[pt w.heap.size, pt tb], .func (.func 46) #[] #[pt w.heap.size]] := ⟨_, rfl⟩
      have hS := MKS.out _ (b8.alloc b8.size (.cells row 76))
      rw [hrow] at hS
      refine hK _ _ ⟨fun _ => hS, ?_⟩
      clear hK K
      have b9 : Below w2.heap.size w2 (w8.alloc (.cells row 76)) := b8.alloc b8.size _
      have hg89 : Below w8.heap.size w8 (w8.alloc (.cells row 76)) := (Below.refl _ _).alloc (Nat.le_refl _) _
      have hgr := heap_alloc_new w8 (.cells row 76)
      have hbw : Below w.heap.size w (w8.alloc (.cells row 76)) := HB2.out.trans (b9.mono HB2.out.size)
      refine wpAnyI_one 34 (by kernel_rfl) (wpOp_step rfl (fun K hK => ?_)); go_simp
      have cF := Issue_first (w8.alloc (.cells row 76)) s t p b L tk nd au.data.toList role ends quota at_ w.heap.size tb w8.heap.size w3.heap.size (w3.heap.size + 1) w4.heap.size (w4.heap.size + 1) w5'.heap.size (w5'.heap.size + 1) w6.heap.size (w6.heap.size + 1) w7.heap.size (w7.heap.size + 1) _ _
        (HH.out.below hbw) HLL.out (fun hn => by rw [← HTK.out]; exact tok_of_hex dr (by rw [HND.out]; exact hn)) (by first | rfl | (apply Bool.eq_iff_iff.2; simp; omega) | (apply Bool.eq_iff_iff.2; simp)) rfl (role_wrap HR.out) (by rw [he, hq]; rfl)
        (heap_below BS2.out b9) (heap_below BT2.out b9) (f0.below hg89) (f1.below hg89) (f2.below hg89) (f3.below hg89) (f4.below hg89) (by rw [hgr, hrow])
      rw [hrow] at cF
      refine cF.mono ?_
      rintro e w9 ⟨rfl, hb9⟩
      rw [← hrow] at hb9
      have hgg := b9.trans (hb9.mono b9.size)
      have hS := MKS.out _ hgg
      have hwF := HB2.out.trans (hgg.mono HB2.out.size)
      have HGG := Lib.hid hgg; have HWF := Lib.hid hwF
      clear cF hb9 hgg hwF hgr hg89 b9 b8 b7 b6 b5 b4 b3 f0 f1 f2 f3 f4 hrow hbw
      refine hK _ _ ⟨fun _ => hS, ?_⟩
      clear hK K
      refine wpAnyS_take 35 (v := ?_) rfl (by kernel_rfl) (by kernel_rfl) (by kernel_rfl) rfl (fun _ _ _ h => h) (.inl ⟨rfl, fun w' hS' => ?_⟩) hS ?_; rotate_left 1; focus (have hf := (HSd.out w').1 hS'; (repeat (obtain ⟨_, hf⟩ := hf)); go_simp; (try rfl))
      refine wpAnyI_done (by kernel_rfl) ?_ _
      have hR : issueR L dr au role ends quota at_ = issueC L nd tk au.data.toList role ends quota at_ := by unfold issueR; rw [HND.out, HTK.out]
      have HRR := Lib.hid hR
      clear hR
      by_cases hcode : issueC L nd tk au.data.toList role ends quota at_ = 0
      · obtain ⟨q1, q2, q3, q4, q5, q6, q7, q8⟩ := issue_facts hcode
        have ht : isTok tk = true := by rw [← HTK.out]; exact tok_of_hex dr (by rw [HND.out]; exact q1)
        obtain ⟨s0, s1, s2, s3, s4, s7⟩ := (HSd.out _).1 hS
        have t9 := heap_below BT2.out HGG.out
        have tc9 : w9.cell? ⟨tb, 0, none⟩ = some (.string (bs tk)) := by rw [World.cell?]; simp only [t9]; rfl
        have cS := save_ok w9 s t p b (kvOf L) tk (newS au role ends quota at_) (HH.out.st.below HWF.out) ht q4.ok
        have hcells : sessC (bs tk) (newS au role ends quota at_) = #[.string (bs tk), .string au, .int .i64 role, .int .i64 ends, .int .i64 quota, .int .i64 0, .int .i64 20, .int .i64 at_] := by
          unfold sessC newS
          simp only
          rw [Int.toNat_of_nonneg (by omega : 0 ≤ role), Int.toNat_of_nonneg q6, Int.toNat_of_nonneg q7, Int.toNat_of_nonneg q8]
          rfl
        rw [hcells, put_kv] at cS
        have hbt : b ≠ tb := by have := HH.out.st.lb; have := HXT.out; omega
        have CS := Lib.hid cS; have HT := Lib.hid ht; have HQ4 := Lib.hid q4; have T9 := Lib.hid t9; have HBT := Lib.hid hbt; have HC := Lib.hid hcode
        clear hcells cS q4 q2 t9 hbt ht
        rw [hcode]
        clear hcode
        go_simp
        go_wp2_with fail
        refine CS.out.mono ?_
        rintro e w10 ⟨rfl, hs10, hk10⟩
        have t10 := heap_kp0 T9.out hk10 (Ne.symm HBT.out)
        have tc10 : w10.cell? ⟨tb, 0, none⟩ = some (.string (bs tk)) := by rw [World.cell?]; simp only [t10]; rfl
        have HS10 := Lib.hid hs10; have HK10 := Lib.hid ((Kp.of_below HWF.out (· = b)).trans hk10)
        clear hs10 hk10 t10 tc9 s0 s1 s2 s3 s4 s7
        dsimp only
        go_wp2_with fail
        refine (Cookie_ok w10 key (bs tk) HK.out (by rw [bs_size, tok_len tk HT.out]; decide)).mono ?_
        rintro e w11 ⟨rfl, hb11⟩
        have hce : cookieE key.data.toList (bs tk).data.toList = .returned (.tuple #[.string (bs (cookieB key.data.toList tk)), .int .i64 0]) := by
          unfold cookieE cookieO; rw [bs_list, if_pos HT.out]
        rw [hce]
        have HB11 := Lib.hid hb11
        clear hb11 hce
        dsimp only
        go_wp2_with fail
        go_ret2
        refine ⟨?_, ?_, HK10.out.trans (Kp.of_below HB11.out _)⟩
        · unfold issueE; rw [HRR.out, if_pos HC.out, HTK.out]; rfl
        · unfold issueS; rw [HRR.out, if_pos HC.out, HTK.out]
          exact ⟨HS10.out.below HB11.out, HH.out.ok.put HT.out HQ4.out⟩
      · have HC := Lib.hid hcode
        generalize hcv : issueC L nd tk au.data.toList role ends quota at_ = cv at *
        clear hcode
        have hcv0 : cv ≠ 0 := HC.out
        go_simp
        go_wp2_with fail
        go_ret2
        refine ⟨?_, ?_, Kp.of_below HWF.out _⟩
        · unfold issueE; rw [HRR.out, if_neg HC.out]; rfl
        · unfold issueS; rw [HRR.out, if_neg HC.out]; exact HH.out.below HWF.out
    | true =>
      refine wp_region_I (by kernel_rfl) S 99 ?_
      refine wpAnyS_take 0 (v := ?_) rfl (by kernel_rfl) (by kernel_rfl) (by kernel_rfl) rfl (fun _ _ _ h => h) (.inl ⟨rfl, fun w' hS' => ?_⟩) hS ?_; rotate_left 1; focus (have hf := (HSd.out w').1 hS'; (repeat (obtain ⟨_, hf⟩ := hf)); go_simp; (try rfl))
      refine wpAnyS_take 4 (v := ?_) rfl (by kernel_rfl) (by kernel_rfl) (by kernel_rfl) rfl (fun _ _ _ h => h) (.inl ⟨rfl, fun w' hS' => ?_⟩) hS ?_; rotate_left 1; focus (have hf := (HSd.out w').1 hS'; (repeat (obtain ⟨_, hf⟩ := hf)); go_simp; (try rfl))
      refine wpAnyS_take 5 (v := ?_) rfl (by kernel_rfl) (by kernel_rfl) (by kernel_rfl) rfl (fun _ _ _ h => h) (.inl ⟨rfl, fun w' hS' => ?_⟩) hS ?_; rotate_left 1; focus (have hf := (HSd.out w').1 hS'; (repeat (obtain ⟨_, hf⟩ := hf)); go_simp; (try rfl))
      refine wpAnyS_take 6 (v := ?_) rfl (by kernel_rfl) (by kernel_rfl) (by kernel_rfl) rfl (fun _ _ _ h => h) (.inl ⟨rfl, fun w' hS' => ?_⟩) hS ?_; rotate_left 1; focus (have hf := (HSd.out w').1 hS'; (repeat (obtain ⟨_, hf⟩ := hf)); go_simp; (try rfl))
      refine wpAnyS_take 8 (v := ?_) rfl (by kernel_rfl) (by kernel_rfl) (by kernel_rfl) rfl (fun _ _ _ h => h) (.inl ⟨rfl, fun w' hS' => ?_⟩) hS ?_; rotate_left 1; focus (have hf := (HSd.out w').1 hS'; (repeat (obtain ⟨_, hf⟩ := hf)); go_simp; (try rfl))
      refine wpAnyS_take 9 (v := ?_) rfl (by kernel_rfl) (by kernel_rfl) (by kernel_rfl) rfl (fun _ _ _ h => h) (.inl ⟨rfl, fun w' hS' => ?_⟩) hS ?_; rotate_left 1; focus (have hf := (HSd.out w').1 hS'; (repeat (obtain ⟨_, hf⟩ := hf)); go_simp; (try rfl))
      refine wpAnyS_take 12 (v := ?_) rfl (by kernel_rfl) (by kernel_rfl) (by kernel_rfl) rfl (fun _ _ _ h => h) (.inl ⟨rfl, fun w' hS' => ?_⟩) hS ?_; rotate_left 1; focus (have hf := (HSd.out w').1 hS'; (repeat (obtain ⟨_, hf⟩ := hf)); go_simp; (try rfl))
      refine wpAnyS_take 13 (v := ?_) rfl (by kernel_rfl) (by kernel_rfl) (by kernel_rfl) rfl (fun _ _ _ h => h) (.inl ⟨rfl, fun w' hS' => ?_⟩) hS ?_; rotate_left 1; focus (have hf := (HSd.out w').1 hS'; (repeat (obtain ⟨_, hf⟩ := hf)); go_simp; (try rfl))
      refine wpAnyS_take 14 (v := ?_) rfl (by kernel_rfl) (by kernel_rfl) (by kernel_rfl) rfl (fun _ _ _ h => h) (.inl ⟨rfl, fun w' hS' => ?_⟩) hS ?_; rotate_left 1; focus (have hf := (HSd.out w').1 hS'; (repeat (obtain ⟨_, hf⟩ := hf)); go_simp; (try rfl))
      refine wpAnyS_take 17 (v := ?_) rfl (by kernel_rfl) (by kernel_rfl) (by kernel_rfl) rfl (fun _ _ _ h => h) (.inl ⟨rfl, fun w' hS' => ?_⟩) hS ?_; rotate_left 1; focus (have hf := (HSd.out w').1 hS'; (repeat (obtain ⟨_, hf⟩ := hf)); go_simp; (try rfl))
      refine wpAnyS_take 18 (v := ?_) rfl (by kernel_rfl) (by kernel_rfl) (by kernel_rfl) rfl (fun _ _ _ h => h) (.inl ⟨rfl, fun w' hS' => ?_⟩) hS ?_; rotate_left 1; focus (have hf := (HSd.out w').1 hS'; (repeat (obtain ⟨_, hf⟩ := hf)); go_simp; (try rfl))
      refine wpAnyS_take 31 (v := ?_) rfl (by kernel_rfl) (by kernel_rfl) (by kernel_rfl) rfl (fun _ _ _ h => h) (.inl ⟨rfl, fun w' hS' => ?_⟩) hS ?_; rotate_left 1; focus (have hf := (HSd.out w').1 hS'; (repeat (obtain ⟨_, hf⟩ := hf)); go_simp; (try rfl))
      refine wpAnyS_take 32 (v := ?_) rfl (by kernel_rfl) (by kernel_rfl) (by kernel_rfl) rfl (fun _ _ _ h => h) (.inl ⟨rfl, fun w' hS' => ?_⟩) hS ?_; rotate_left 1; focus (have hf := (HSd.out w').1 hS'; (repeat (obtain ⟨_, hf⟩ := hf)); go_simp; (try rfl))
      refine wpAnyI_one 1 (by kernel_rfl) (wpOp_step rfl (fun K hK => ?_)); go_simp
      refine (Dead_ok w2.drew s t p b (kvOf L) (HH.out.st.below (HB2.out.trans ((Below.refl _ _).drew.mono HB2.out.size)))).mono ?_
      rintro e w3 ⟨rfl, hw⟩
      have b3 : Below w2.heap.size w2 w3 := by rw [← hw]; exact (Below.refl _ _).drew
      clear hw
      have hS := MKS.out _ b3
      refine hK _ _ ⟨fun _ => hS, ?_⟩
      clear hK K
      refine wpAnyS_take 2 (v := ?_) rfl (by kernel_rfl) (by kernel_rfl) (by kernel_rfl) rfl (fun _ _ _ h => h) (.inl ⟨rfl, fun w' hS' => ?_⟩) hS ?_; rotate_left 1; focus (have hf := (HSd.out w').1 hS'; (repeat (obtain ⟨_, hf⟩ := hf)); go_simp; (try rfl))
      refine wpAnyI_one 3 (by kernel_rfl) (wpOp_step rfl (fun K hK => ?_)); go_simp
      refine (when_at w3 _ 151).mono ?_
      rintro e w4 ⟨rfl, f0, hg⟩
      have b4 := b3.trans (hg.mono b3.size)
      have hS := MKS.out _ b4
      clear hg
      refine hK _ _ ⟨fun _ => hS, ?_⟩
      clear hK K
      refine wpAnyI_one 7 (by kernel_rfl) (wpOp_step rfl (fun K hK => ?_)); go_simp
      refine (when_at w4 _ 1).mono ?_
      rintro e w5 ⟨rfl, f1, hg⟩
      have b5 := b4.trans (hg.mono b4.size)
      have f0 := f0.below hg
      have hS := MKS.out _ b5
      clear hg
      refine hK _ _ ⟨fun _ => hS, ?_⟩
      clear hK K
      refine wpAnyI_one 10 (by kernel_rfl) (wpOp_step rfl (fun K hK => ?_)); go_simp
      refine (Name_ok w5 au hau).mono ?_
      rintro e w5' ⟨rfl, rfl⟩
      refine hK _ _ ⟨fun _ => hS, ?_⟩
      clear hK K
      refine wpAnyI_one 11 (by kernel_rfl) (wpOp_step rfl (fun K hK => ?_)); go_simp
      refine (when_at w5' _ 171).mono ?_
      rintro e w6 ⟨rfl, f2, hg⟩
      have b6 := b5.trans (hg.mono b5.size)
      have f0 := f0.below hg
      have f1 := f1.below hg
      have hS := MKS.out _ b6
      clear hg
      refine hK _ _ ⟨fun _ => hS, ?_⟩
      clear hK K
      refine wpAnyI_one 15 (by kernel_rfl) (wpOp_step rfl (fun K hK => ?_)); go_simp
      refine (within_ok w6 _ _).mono ?_
      rintro e w6' ⟨rfl, rfl⟩
      refine hK _ _ ⟨fun _ => hS, ?_⟩
      clear hK K
      refine wpAnyI_one 16 (by kernel_rfl) (wpOp_step rfl (fun K hK => ?_)); go_simp
      refine (when_at w6 _ 192).mono ?_
      rintro e w7 ⟨rfl, f3, hg⟩
      have b7 := b6.trans (hg.mono b6.size)
      have f0 := f0.below hg
      have f1 := f1.below hg
      have f2 := f2.below hg
      have hS := MKS.out _ b7
      clear hg
      refine hK _ _ ⟨fun _ => hS, ?_⟩
      clear hK K
      refine wpAnyI_one 19 (by kernel_rfl) (wpOp_step rfl (fun K hK => ?_)); go_simp
      refine (within_ok w7 _ _).mono ?_
      rintro e w7' ⟨rfl, rfl⟩
      rw [he]
      refine hK _ _ ⟨fun _ => hS, ?_⟩
      clear hK K
      refine wpAnyS_take 20 (v := ?_) rfl (by kernel_rfl) (by kernel_rfl) (by kernel_rfl) rfl (fun _ _ _ h => h) (.inl ⟨rfl, fun w' hS' => ?_⟩) hS ?_; rotate_left 1; focus (have hf := (HSd.out w').1 hS'; (repeat (obtain ⟨_, hf⟩ := hf)); go_simp; (try rfl))
      refine wpAnyS_take 21 (v := ?_) rfl (by kernel_rfl) (by kernel_rfl) (by kernel_rfl) rfl (fun _ _ _ h => h) (.inl ⟨rfl, fun w' hS' => ?_⟩) hS ?_; rotate_left 1; focus (have hf := (HSd.out w').1 hS'; (repeat (obtain ⟨_, hf⟩ := hf)); go_simp; (try rfl))
      refine wpAnyS_take 22 (v := ?_) rfl (by kernel_rfl) (by kernel_rfl) (by kernel_rfl) rfl (fun _ _ _ h => h) (.inl ⟨rfl, fun w' hS' => ?_⟩) hS ?_; rotate_left 1; focus (have hf := (HSd.out w').1 hS'; (repeat (obtain ⟨_, hf⟩ := hf)); go_simp; (try rfl))
      refine wpAnyI_one 23 (by kernel_rfl) (wpOp_step rfl (fun K hK => ?_)); go_simp
      refine (within_ok w7 _ _).mono ?_
      rintro e w7' ⟨rfl, rfl⟩
      rw [hq]
      refine hK _ _ ⟨fun _ => hS, ?_⟩
      clear hK K
      refine wpAnyS_take 24 (v := ?_) rfl (by kernel_rfl) (by kernel_rfl) (by kernel_rfl) rfl (fun _ _ _ h => h) (.inl ⟨rfl, fun w' hS' => ?_⟩) hS ?_; rotate_left 1; focus (have hf := (HSd.out w').1 hS'; (repeat (obtain ⟨_, hf⟩ := hf)); go_simp; (try rfl))
      refine wpAnyS_take 25 (v := ?_) rfl (by kernel_rfl) (by kernel_rfl) (by kernel_rfl) rfl (fun _ _ _ h => h) (.inl ⟨rfl, fun w' hS' => ?_⟩) hS ?_; rotate_left 1; focus (have hf := (HSd.out w').1 hS'; (repeat (obtain ⟨_, hf⟩ := hf)); go_simp; (try rfl))
      refine wpAnyS_take 26 (v := ?_) rfl (by kernel_rfl) (by kernel_rfl) (by kernel_rfl) rfl (fun _ _ _ h => h) (.inl ⟨rfl, fun w' hS' => ?_⟩) hS ?_; rotate_left 1; focus (have hf := (HSd.out w').1 hS'; (repeat (obtain ⟨_, hf⟩ := hf)); go_simp; (try rfl))
      refine wpAnyS_take 27 (v := ?_) rfl (by kernel_rfl) (by kernel_rfl) (by kernel_rfl) rfl (fun _ _ _ h => h) (.inl ⟨rfl, fun w' hS' => ?_⟩) hS ?_; rotate_left 1; focus (have hf := (HSd.out w').1 hS'; (repeat (obtain ⟨_, hf⟩ := hf)); go_simp; (try rfl))
      refine wpAnyI_one 28 (by kernel_rfl) (wpOp_step rfl (fun K hK => ?_)); go_simp
      refine (within_ok w7 _ _).mono ?_
      rintro e w7' ⟨rfl, rfl⟩
      refine hK _ _ ⟨fun _ => hS, ?_⟩
      clear hK K
      refine wpAnyS_take 29 (v := ?_) rfl (by kernel_rfl) (by kernel_rfl) (by kernel_rfl) rfl (fun _ _ _ h => h) (.inl ⟨rfl, fun w' hS' => ?_⟩) hS ?_; rotate_left 1; focus (have hf := (HSd.out w').1 hS'; (repeat (obtain ⟨_, hf⟩ := hf)); go_simp; (try rfl))
      refine wpAnyI_one 30 (by kernel_rfl) (wpOp_step rfl (fun K hK => ?_)); go_simp
      refine (when_at w7 _ 1).mono ?_
      rintro e w8 ⟨rfl, f4, hg⟩
      have b8 := b7.trans (hg.mono b7.size)
      have f0 := f0.below hg
      have f1 := f1.below hg
      have f2 := f2.below hg
      have f3 := f3.below hg
      have hS := MKS.out _ b8
      clear hg
      refine hK _ _ ⟨fun _ => hS, ?_⟩
      clear hK K
      refine wpAnyI_one 33 (by kernel_rfl) (wpOp_step rfl (fun K hK => ?_)); go_simp
      obtain ⟨row, hrow⟩ : ∃ row : Array Value, row = #[.func (.func 92) #[] #[pt w3.heap.size, pt (w3.heap.size + 1)], .func (.func 92) #[] #[pt w4.heap.size, pt (w4.heap.size + 1)], .func (.func 92) #[] #[pt w5'.heap.size, pt (w5'.heap.size + 1)], .func (.func 92) #[] #[pt w6.heap.size, pt (w6.heap.size + 1)], .func (.func 92) #[] #[pt w7.heap.size, pt (w7.heap.size + 1)], .func (.func 44) #[] #[pt w.heap.size, pt tb], .func (.func 46) #[] #[pt w.heap.size]] := ⟨_, rfl⟩
      have hS := MKS.out _ (b8.alloc b8.size (.cells row 76))
      rw [hrow] at hS
      refine hK _ _ ⟨fun _ => hS, ?_⟩
      clear hK K
      have b9 : Below w2.heap.size w2 (w8.alloc (.cells row 76)) := b8.alloc b8.size _
      have hg89 : Below w8.heap.size w8 (w8.alloc (.cells row 76)) := (Below.refl _ _).alloc (Nat.le_refl _) _
      have hgr := heap_alloc_new w8 (.cells row 76)
      have hbw : Below w.heap.size w (w8.alloc (.cells row 76)) := HB2.out.trans (b9.mono HB2.out.size)
      refine wpAnyI_one 34 (by kernel_rfl) (wpOp_step rfl (fun K hK => ?_)); go_simp
      have cF := Issue_first (w8.alloc (.cells row 76)) s t p b L tk nd au.data.toList role ends quota at_ w.heap.size tb w8.heap.size w3.heap.size (w3.heap.size + 1) w4.heap.size (w4.heap.size + 1) w5'.heap.size (w5'.heap.size + 1) w6.heap.size (w6.heap.size + 1) w7.heap.size (w7.heap.size + 1) _ _
        (HH.out.below hbw) HLL.out (fun hn => by rw [← HTK.out]; exact tok_of_hex dr (by rw [HND.out]; exact hn)) (by first | rfl | (apply Bool.eq_iff_iff.2; simp; omega) | (apply Bool.eq_iff_iff.2; simp)) rfl (role_wrap HR.out) (by rw [he, hq]; simp)
        (heap_below BS2.out b9) (heap_below BT2.out b9) (f0.below hg89) (f1.below hg89) (f2.below hg89) (f3.below hg89) (f4.below hg89) (by rw [hgr, hrow])
      rw [hrow] at cF
      refine cF.mono ?_
      rintro e w9 ⟨rfl, hb9⟩
      rw [← hrow] at hb9
      have hgg := b9.trans (hb9.mono b9.size)
      have hS := MKS.out _ hgg
      have hwF := HB2.out.trans (hgg.mono HB2.out.size)
      have HGG := Lib.hid hgg; have HWF := Lib.hid hwF
      clear cF hb9 hgg hwF hgr hg89 b9 b8 b7 b6 b5 b4 b3 f0 f1 f2 f3 f4 hrow hbw
      refine hK _ _ ⟨fun _ => hS, ?_⟩
      clear hK K
      refine wpAnyS_take 35 (v := ?_) rfl (by kernel_rfl) (by kernel_rfl) (by kernel_rfl) rfl (fun _ _ _ h => h) (.inl ⟨rfl, fun w' hS' => ?_⟩) hS ?_; rotate_left 1; focus (have hf := (HSd.out w').1 hS'; (repeat (obtain ⟨_, hf⟩ := hf)); go_simp; (try rfl))
      refine wpAnyI_done (by kernel_rfl) ?_ _
      have hR : issueR L dr au role ends quota at_ = issueC L nd tk au.data.toList role ends quota at_ := by unfold issueR; rw [HND.out, HTK.out]
      have HRR := Lib.hid hR
      clear hR
      by_cases hcode : issueC L nd tk au.data.toList role ends quota at_ = 0
      · obtain ⟨q1, q2, q3, q4, q5, q6, q7, q8⟩ := issue_facts hcode
        have ht : isTok tk = true := by rw [← HTK.out]; exact tok_of_hex dr (by rw [HND.out]; exact q1)
        obtain ⟨s0, s1, s2, s3, s4, s7⟩ := (HSd.out _).1 hS
        have t9 := heap_below BT2.out HGG.out
        have tc9 : w9.cell? ⟨tb, 0, none⟩ = some (.string (bs tk)) := by rw [World.cell?]; simp only [t9]; rfl
        have cS := save_ok w9 s t p b (kvOf L) tk (newS au role ends quota at_) (HH.out.st.below HWF.out) ht q4.ok
        have hcells : sessC (bs tk) (newS au role ends quota at_) = #[.string (bs tk), .string au, .int .i64 role, .int .i64 ends, .int .i64 quota, .int .i64 0, .int .i64 20, .int .i64 at_] := by
          unfold sessC newS
          simp only
          rw [Int.toNat_of_nonneg (by omega : 0 ≤ role), Int.toNat_of_nonneg q6, Int.toNat_of_nonneg q7, Int.toNat_of_nonneg q8]
          rfl
        rw [hcells, put_kv] at cS
        have hbt : b ≠ tb := by have := HH.out.st.lb; have := HXT.out; omega
        have CS := Lib.hid cS; have HT := Lib.hid ht; have HQ4 := Lib.hid q4; have T9 := Lib.hid t9; have HBT := Lib.hid hbt; have HC := Lib.hid hcode
        clear hcells cS q4 q2 t9 hbt ht
        rw [hcode]
        clear hcode
        go_simp
        go_wp2_with fail
        refine CS.out.mono ?_
        rintro e w10 ⟨rfl, hs10, hk10⟩
        have t10 := heap_kp0 T9.out hk10 (Ne.symm HBT.out)
        have tc10 : w10.cell? ⟨tb, 0, none⟩ = some (.string (bs tk)) := by rw [World.cell?]; simp only [t10]; rfl
        have HS10 := Lib.hid hs10; have HK10 := Lib.hid ((Kp.of_below HWF.out (· = b)).trans hk10)
        clear hs10 hk10 t10 tc9 s0 s1 s2 s3 s4 s7
        dsimp only
        go_wp2_with fail
        refine (Cookie_ok w10 key (bs tk) HK.out (by rw [bs_size, tok_len tk HT.out]; decide)).mono ?_
        rintro e w11 ⟨rfl, hb11⟩
        have hce : cookieE key.data.toList (bs tk).data.toList = .returned (.tuple #[.string (bs (cookieB key.data.toList tk)), .int .i64 0]) := by
          unfold cookieE cookieO; rw [bs_list, if_pos HT.out]
        rw [hce]
        have HB11 := Lib.hid hb11
        clear hb11 hce
        dsimp only
        go_wp2_with fail
        go_ret2
        refine ⟨?_, ?_, HK10.out.trans (Kp.of_below HB11.out _)⟩
        · unfold issueE; rw [HRR.out, if_pos HC.out, HTK.out]; rfl
        · unfold issueS; rw [HRR.out, if_pos HC.out, HTK.out]
          exact ⟨HS10.out.below HB11.out, HH.out.ok.put HT.out HQ4.out⟩
      · have HC := Lib.hid hcode
        generalize hcv : issueC L nd tk au.data.toList role ends quota at_ = cv at *
        clear hcode
        have hcv0 : cv ≠ 0 := HC.out
        go_simp
        go_wp2_with fail
        go_ret2
        refine ⟨?_, ?_, Kp.of_below HWF.out _⟩
        · unfold issueE; rw [HRR.out, if_neg HC.out]; rfl
        · unfold issueS; rw [HRR.out, if_neg HC.out]; exact HH.out.below HWF.out
end Go.Proofs.YtmbfenkmabdokaaGreatDoor
