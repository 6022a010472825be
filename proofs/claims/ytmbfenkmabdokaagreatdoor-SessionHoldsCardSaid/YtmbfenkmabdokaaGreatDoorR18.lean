/- Parts of the proof: SAll. -/
import Derived.Deep.MidRow
import Derived.Test.YtmbfenkmabdokaaGreatDoorR16
import Derived.Test.YtmbfenkmabdokaaGreatDoorR17
import Derived.Test.YtmbfenkmabdokaaGreatDoorR03
import Derived.Test.YtmbfenkmabdokaaGreatDoorR14
set_option linter.all false
namespace Go.Proofs.YtmbfenkmabdokaaGreatDoor
open Go.RowKit Go.Mp

def sesE (q : Bytes × Sess) : List Value := (sessC (bs q.1) q.2).toList
theorem sesE_len (l : SL) : (l.flatMap sesE).length = l.length * 8 := by
  induction l with
  | nil => rfl
  | cons q l ih => rw [List.flatMap_cons, List.length_append, ih]; simp [sesE, sessC]; omega
theorem sesE_take (l : SL) (k : Nat) (h : k < l.length) : (l.take (k + 1)).flatMap sesE = (l.take k).flatMap sesE ++ sesE l[k] := by
  rw [List.take_succ_eq_append_getElem h, List.flatMap_append]; simp
theorem own_base {w : World} {base base' : Nat} {e : TypeId} {size : Nat} {v : Value} {n : Nat} {xs : List Value} (h : w.ownsRow base e size v n xs) (hb : base' ≤ base) : w.ownsRow base' e size v n xs := by
  refine ⟨h.1, ?_⟩
  rcases h.2 with h0 | ⟨g, cap, cur, h0, h1, h2⟩
  · exact Or.inl h0
  · exact Or.inr ⟨g, cap, cur, h0, Nat.le_trans hb h1, h2⟩
theorem rowE_at {base : Nat} {W : World} {A : Option Addr} {d : Array (ByteArray × ByteArray)} {i : Nat} (h : RowE base W A d) (hi : i < d.size) :
    ∃ g, A = some ⟨g, 0, none⟩ ∧ base ≤ g ∧ g < W.heap.size ∧ W.rangeAt g (i * 2) [.string d[i].1, .string d[i].2] := by
  rcases h with h | ⟨g, hA, hb, hg, hH⟩
  · omega
  · refine ⟨g, hA, hb, hg, fun j v hv => ?_⟩
    have hj : j < 2 := by
      have := (List.getElem?_eq_some_iff.1 hv).1; simpa using this
    have h1 := (hH.cell hi hj).1
    rw [Nat.zero_add] at h1
    rw [h1]
    have e1 : d[i]! = d[i] := getElem!_pos d i hi
    rw [e1]
    rcases j with _ | _ | j
    · simpa [entE] using hv
    · simpa [entE] using hv
    · omega
theorem rowE_keep {base : Nat} {W W' : World} {A : Option Addr} {d : Array (ByteArray × ByteArray)} (h : RowE base W A d) (hb : Below W.heap.size W W') : RowE base W' A d := by
  rcases h with h | ⟨g, hA, hb1, hg, hH⟩
  · exact Or.inl h
  · refine Or.inr ⟨g, hA, hb1, Nat.lt_of_lt_of_le hg hb.size, fun j hj => ?_⟩
    obtain ⟨h1, h2⟩ := hH j hj
    have hbk := hb.block g hg
    refine ⟨?_, ?_⟩
    · rw [← h1]; exact World.cell?_of_block hbk
    · rw [← h2]; unfold World.frozen?; simp only [hbk]
theorem info_sess : (Tryz.prog.info? 36).map (fun i => (i.zero, i.size, i.bytes)) = some (some (.agg zeroS), 8, 80) := by kernel_rfl
theorem info_sess' : ∃ i, Tryz.prog.info? 36 = some i ∧ i.zero = some (.agg zeroS) ∧ i.size = 8 ∧ i.bytes = 80 := by
  have h := info_sess
  cases hi : Tryz.prog.info? 36 with
  | none => rw [hi] at h; cases h
  | some i => rw [hi] at h; simp at h; exact ⟨i, rfl, h.1, h.2.1, h.2.2⟩
section
variable {P : Program} {md : Region.Mode} {ops : Array Oper} {Q : Exit → Act → World → Prop} {S : World → Prop} {last : Nat}
/-- the two that may come up -/
theorem wpAnyI_two (i j : Nat) {n : Nat} {l : Array Bool} {a : Act} {w : World} (hr : Region.ready md ops l = [i, j])
    (h : wpOp P ops Q i (fun a' w' => (i ≠ last → S w') ∧ wpAnyI P md ops Q S last n (l.setIfInBounds i true) a' w') a w)
    (h2 : wpOp P ops Q j (fun a' w' => (j ≠ last → S w') ∧ wpAnyI P md ops Q S last n (l.setIfInBounds j true) a' w') a w) : wpAnyI P md ops Q S last (n + 1) l a w :=
  ⟨fun h0 => (by rw [hr] at h0; cases h0), fun k hk => (by
    rw [hr] at hk
    simp at hk
    rcases hk with rfl | rfl
    · exact h
    · exact h2)⟩
end
theorem key_begin : keyT [sessW] = beginB := rfl

set_option maxRecDepth 100000 in
set_option maxHeartbeats 2000000 in
theorem SAll_ok (w : World) (s t p b : Nat) (L : SL) (h : Ss w s t p b L) (hL : L.length ≤ 1000) :
    Calls Tryz.prog 20 #[.pointer (some ⟨s, 0, none⟩)] w fun e w' => ∃ (v : Value) (l : SL), e = .returned v ∧ l.Perm L ∧ w'.ownsRow w.heap.size 36 8 v l.length (l.flatMap sesE) ∧ Below w.heap.size w w' := by
  have cK := Key_ok (w.alloc (.cells #[.int .i64 2, .int .i64 0, .string ⟨#[115, 101, 115, 115, 105, 111, 110]⟩] 85)) w.heap.size [sessW] _ rfl (heap_alloc_new w _) (by simp) (by simp) (by simp [keyT, partB, sessW]) (by
    intro x hx; simp at hx; subst hx; decide)
  have cA := Lib.hid (fun W (hb : Below w.heap.size w W) => All_ok W s t p b (kvOf L) (bs beginB) (bs afterB) (h.st.below hb) (by
    intro q hq
    obtain ⟨r, _, rfl⟩ := List.mem_map.1 hq
    rw [toList_bs, toList_bs, toList_bs]
    exact ⟨place_ge _, place_lt _⟩) (by rw [toList_bs]; simp [afterB]) (by unfold kvOf; simpa using hL))
  have HS := Lib.hid h; have HLL := Lib.hid hL; have CK := Lib.hid cK
  have hb0 : Below w.heap.size w (w.alloc (.cells #[.int .i64 2, .int .i64 0, .string ⟨#[115, 101, 115, 115, 105, 111, 110]⟩] 85)) := (Below.refl _ _).alloc (Nat.le_refl _) _
  have HB0 := Lib.hid hb0
  clear h hL cK hb0
  go_enter Tryz.func20, Tryz.ntmps20
  go_wp2_with fail
  refine CK.out.mono ?_
  rintro e w1 ⟨rfl, hb1⟩
  have hw1 := HB0.out.trans (hb1.mono HB0.out.size)
  have HW1 := Lib.hid hw1
  clear hb1 hw1
  rw [key_begin]
  dsimp only
  go_wp2_with fail
  refine (After_ok w1).mono ?_
  rintro e w2 ⟨rfl, hb2⟩
  have hw2 := HW1.out.trans (hb2.mono HW1.out.size)
  have HW2 := Lib.hid hw2
  clear hb2 hw2
  dsimp only
  go_wp2_with fail
  refine (cA.out w2 HW2.out).mono ?_
  rintro e w3 ⟨A, c, d, rfl, hp, _, hrow, hb3⟩
  obtain ⟨l, hlp, hdl⟩ := perm_map_inv hp L rfl
  have hw3 := HW2.out.trans (hb3.mono HW2.out.size)
  have hds : d.size = l.length := by rw [← Array.length_toList, hdl]; simp
  have hln : l.length ≤ 1000 := by rw [hlp.length_eq]; exact HLL.out
  have hdk : ∀ k (hk : k < l.length), d[k]? = some (bs (placeB l[k].1), bs l[k].2.enc) := fun k hk => by
    rw [← Array.getElem?_toList, hdl, List.getElem?_map, List.getElem?_eq_getElem hk]; rfl
  have HW3 := Lib.hid hw3; have HLP := Lib.hid hlp; have HROW := Lib.hid hrow; have HDK := Lib.hid hdk; have HDS := Lib.hid hds
  clear hp hdl hlp hb3 hw3 hrow hdk
  rw [hds]
  clear hds
  dsimp only
  go_wp2_with fail
  go_loopw [5, 24] (fun v i wr => ∃ k : Nat, k ≤ l.length ∧ i = .int .i64 k ∧ wr.ownsRow w3.heap.size 36 8 v k ((l.take k).flatMap sesE) ∧ Below w3.heap.size w3 wr) (fun _ i _ => l.length - (intOf i).toNat)
  case atStart => exact ⟨0, Nat.zero_le _, rfl, World.ownsRow_nil _ _ _ _, Below.refl _ _⟩
  case round =>
    obtain ⟨k, hk, rfl, how, hbr⟩ := hrel
    obtain ⟨A4, c4, rfl⟩ := own_form3 how
    have hwr := HW3.out.trans (hbr.mono HW3.out.size)
    by_cases hlt : k < l.length
    · have hkd : k < d.size := by rw [HDS.out]; exact hlt
      obtain ⟨g, rfl, hg1, hg2, hrg⟩ := rowE_at (rowE_keep HROW.out hbr) hkd
      have hdk' := HDK.out k hlt
      rw [Array.getElem?_eq_getElem hkd] at hdk'
      rw [Option.some.inj hdk'] at hrg
      have htk := sesE_take l k hlt
      have hok := (HS.out.ok.tok l[k] (HLP.out.mem_iff.1 (List.getElem_mem hlt)))
      obtain ⟨tk, x, htx⟩ : ∃ tk x, l[k] = (tk, x) := ⟨_, _, rfl⟩
      rw [htx] at hrg htk hok
      simp only at hrg hok
      have HTK := Lib.hid htk; have HOK := Lib.hid hok; have HOW := Lib.hid how; have HBR := Lib.hid hbr; have HWR := Lib.hid hwr; have HRG := Lib.hid hrg
      clear htk hok how hbr hwr hrg htx hdk'
      have hi2 : (Tryz.prog.info? 90).map (·.size) = some [Value.string (bs (placeB tk)), .string (bs x.enc)].length := by kernel_rfl
      go_wp2_with first | (refine wpList_load_mid rfl 90 _ rfl g (k * 2) rfl [.string (bs (placeB tk)), .string (bs x.enc)] _ HRG.out Tryz.underlying90 rfl hi2 ?_) | fail
      have hbE : Below wr.heap.size wr (wr.alloc (.cells #[.string (bs (placeB tk)), .string (bs x.enc)] 90)) := (Below.refl _ _).alloc (Nat.le_refl _) _
      have bxE := heap_alloc_new wr (.cells #[.string (bs (placeB tk)), .string (bs x.enc)] 90)
      refine (Read_place _ tk HOK.out.1).mono ?_
      rintro e w4 ⟨v, rfl, hpr, hb4⟩
      obtain ⟨A5, c5, rfl⟩ := own_form3 hpr
      obtain ⟨g2, rfl⟩ : ∃ g2, A5 = some ⟨g2, 0, none⟩ := by
        rcases hpr.2 with ⟨_, h0⟩ | ⟨g2, cap, cur, h0, _⟩
        · omega
        · injection h0 with hA; exact ⟨g2, hA⟩
      have p5 : w4.cell? ⟨g2, 5, none⟩ = some (.string (bs tk)) := (hpr.cellAt 5 (by omega)).trans rfl
      have bx4 := heap_below bxE hb4
      have p1 : w4.cell? ⟨wr.heap.size, 1, none⟩ = some (.string (bs x.enc)) := by rw [World.cell?]; simp only [bx4]; rfl
      have bw4 := hbE.trans (hb4.mono hbE.size)
      have P5 := Lib.hid p5; have P1 := Lib.hid p1; have BW4 := Lib.hid bw4
      clear hpr hbE bxE hb4 bx4 bw4 p5 p1
      dsimp only
      go_wp2_with fail
      obtain ⟨S, hSd⟩ : ∃ S : World → Prop, ∀ w', S w' ↔ (w'.cell? ⟨g2, 5, none⟩ = some (.string (bs tk)) ∧ w'.cell? ⟨wr.heap.size, 1, none⟩ = some (.string (bs x.enc))) := ⟨_, fun _ => Iff.rfl⟩
      have mkS : ∀ w', Below w4.heap.size w4 w' → S w' := fun w' hb => (hSd _).2 ⟨by rw [← P5.out]; exact World.cell?_of_block (hb.block _ (lt_of_cell P5.out)), by rw [← P1.out]; exact World.cell?_of_block (hb.block _ (lt_of_cell P1.out))⟩
      have hS : S w4.drew := mkS _ (Below.refl _ _).drew
      have HSd := Lib.hid hSd; have MKS := Lib.hid mkS
      clear hSd mkS
      refine wp_region_I (by kernel_rfl) S 99 ?_
      refine wpAnyS_take 0 (v := ?_) rfl (by kernel_rfl) (by kernel_rfl) (by kernel_rfl) rfl (fun _ _ _ h => h) (.inl ⟨rfl, fun w' hS' => ?_⟩) hS ?_; rotate_left 1; focus (have hf := (HSd.out w').1 hS'; (repeat (obtain ⟨_, hf⟩ := hf)); go_simp; (try rfl))
      refine wpAnyS_take 1 (v := ?_) rfl (by kernel_rfl) (by kernel_rfl) (by kernel_rfl) rfl (fun _ _ _ h => h) (.inl ⟨rfl, fun w' hS' => ?_⟩) hS ?_; rotate_left 1; focus (have hf := (HSd.out w').1 hS'; (repeat (obtain ⟨_, hf⟩ := hf)); go_simp; (try rfl))
      refine wpAnyS_take 2 (v := ?_) rfl (by kernel_rfl) (by kernel_rfl) (by kernel_rfl) rfl (fun _ _ _ h => h) (.inl ⟨rfl, fun w' hS' => ?_⟩) hS ?_; rotate_left 1; focus (have hf := (HSd.out w').1 hS'; (repeat (obtain ⟨_, hf⟩ := hf)); go_simp; (try rfl))
      refine wpAnyS_take 3 (v := ?_) rfl (by kernel_rfl) (by kernel_rfl) (by kernel_rfl) rfl (fun _ _ _ h => h) (.inl ⟨rfl, fun w' hS' => ?_⟩) hS ?_; rotate_left 1; focus (have hf := (HSd.out w').1 hS'; (repeat (obtain ⟨_, hf⟩ := hf)); go_simp; (try rfl))
      refine wpAnyS_take 4 (v := ?_) rfl (by kernel_rfl) (by kernel_rfl) (by kernel_rfl) rfl (fun _ _ _ h => h) (.inl ⟨rfl, fun w' hS' => ?_⟩) hS ?_; rotate_left 1; focus (have hf := (HSd.out w').1 hS'; (repeat (obtain ⟨_, hf⟩ := hf)); go_simp; (try rfl))
      refine wpAnyS_take 5 (v := ?_) rfl (by kernel_rfl) (by kernel_rfl) (by kernel_rfl) rfl (fun _ _ _ h => h) (.inl ⟨rfl, fun w' hS' => ?_⟩) hS ?_; rotate_left 1; focus (have hf := (HSd.out w').1 hS'; (repeat (obtain ⟨_, hf⟩ := hf)); go_simp; (try rfl))
      refine wpAnyI_two 6 10 (by kernel_rfl) (wpOp_step rfl (fun K hK => ?_)) (wpOp_step rfl (fun K hK => ?_))
      · go_simp
        refine (read_ok w4.drew (bs tk) x HOK.out.2.ok).mono ?_
        rintro e w5 ⟨rfl, hb5⟩
        have b5 : Below w4.heap.size w4 w5 := (Below.refl _ _).drew.trans hb5
        have hS := MKS.out _ b5
        have B5 := Lib.hid b5
        clear hb5 b5
        refine hK _ _ ⟨fun _ => hS, ?_⟩
        clear hK K
        refine wpAnyS_take 7 (v := ?_) rfl (by kernel_rfl) (by kernel_rfl) (by kernel_rfl) rfl (fun _ _ _ h => h) (.inl ⟨rfl, fun w' hS' => ?_⟩) hS ?_; rotate_left 1; focus (have hf := (HSd.out w').1 hS'; (repeat (obtain ⟨_, hf⟩ := hf)); go_simp; (try rfl))
        refine wpAnyS_take 8 (v := ?_) rfl (by kernel_rfl) (by kernel_rfl) (by kernel_rfl) rfl (fun _ _ _ h => h) (.inl ⟨rfl, fun w' hS' => ?_⟩) hS ?_; rotate_left 1; focus (have hf := (HSd.out w').1 hS'; (repeat (obtain ⟨_, hf⟩ := hf)); go_simp; (try rfl))
        refine wpAnyS_take 9 (v := ?_) rfl (by kernel_rfl) (by kernel_rfl) (by kernel_rfl) rfl (fun _ _ _ h => h) (.inl ⟨rfl, fun w' hS' => ?_⟩) hS ?_; rotate_left 1; focus (have hf := (HSd.out w').1 hS'; (repeat (obtain ⟨_, hf⟩ := hf)); go_simp; (try rfl))
        refine wpAnyI_one 10 (by kernel_rfl) (wpOp_step rfl (fun K hK => ?_)); go_simp
        have hS := MKS.out (w5.alloc (.cells #[.string ⟨#[]⟩, .string ⟨#[]⟩, .int .i64 0, .int .i64 0, .int .i64 0, .int .i64 0, .int .i64 0, .int .i64 0] 36)) (B5.out.alloc B5.out.size _)
        refine hK _ _ ⟨fun _ => hS, ?_⟩
        clear hK K
        refine wpAnyI_one 11 (by kernel_rfl) (wpOp_step rfl (fun K hK => ?_))
        rw [if_pos]; rotate_left; focus rfl
        have hi3 : (Tryz.prog.info? 36).map (·.size) = some (sessC (bs tk) x).size := by kernel_rfl
        have hall3 : (sessC (bs tk) x).all (·.oneCell') = true := by kernel_rfl
        refine wp_store_row 36 _ _ rfl w5.heap.size (sessC (bs tk) x) rfl rfl 36 _ (heap_alloc_new w5 _) hi3 rfl hall3 ?_
        have hn6 := setRow_heap _ _ _ (sessC (bs tk) x) _ _ (heap_alloc_new w5 (.cells #[.string ⟨#[]⟩, .string ⟨#[]⟩, .int .i64 0, .int .i64 0, .int .i64 0, .int .i64 0, .int .i64 0, .int .i64 0] 36))
        have b6 : Below w4.heap.size w4 ((w5.alloc (.cells #[.string ⟨#[]⟩, .string ⟨#[]⟩, .int .i64 0, .int .i64 0, .int .i64 0, .int .i64 0, .int .i64 0, .int .i64 0] 36)).setRow w5.heap.size (sessC (bs tk) x)) := below_setRow (B5.out.alloc B5.out.size _) B5.out.size _
        have hS := MKS.out _ b6
        refine hK _ _ ⟨fun _ => hS, ?_⟩
        clear hK K
        refine wpAnyS_take 12 (v := ?_) rfl (by kernel_rfl) (by kernel_rfl) (by kernel_rfl) rfl (fun _ _ _ h => h) (.inl ⟨rfl, fun w' hS' => ?_⟩) hS ?_; rotate_left 1; focus (have hf := (HSd.out w').1 hS'; (repeat (obtain ⟨_, hf⟩ := hf)); go_simp; (try rfl))
        refine wpAnyI_done (by kernel_rfl) ?_ _
        have b6' := BW4.out.trans (b6.mono BW4.out.size)
        generalize (w5.alloc (.cells #[.string ⟨#[]⟩, .string ⟨#[]⟩, .int .i64 0, .int .i64 0, .int .i64 0, .int .i64 0, .int .i64 0, .int .i64 0] 36)).setRow w5.heap.size (sessC (bs tk) x) = w6 at *
        generalize w5.heap.size = nb at *
        clear hS b6
        have hw6 := HBR.out.trans (b6'.mono HBR.out.size)
        have hrow6 : w6.heap[nb]? = some (.cells #[.string (bs tk), .string x.author, .int .i64 x.role, .int .i64 x.ends, .int .i64 x.quota, .int .i64 x.used, .int .i64 x.left, .int .i64 x.at_] 36 (0, 0)) := hn6
        have hi4 : (Tryz.prog.info? 36).map (·.size) = some (#[Value.string (bs tk), .string x.author, .int .i64 x.role, .int .i64 x.ends, .int .i64 x.quota, .int .i64 x.used, .int .i64 x.left, .int .i64 x.at_] : Array Value).size := by kernel_rfl
        have ow6 : w6.ownsRow w3.heap.size 36 8 (.slice A4 k c4) k ((l.take k).flatMap sesE) := ownsRow_below HOW.out b6'
        have ow7 : (w6.alloc (.cells #[.string (bs tk), .string x.author, .int .i64 x.role, .int .i64 x.ends, .int .i64 x.quota, .int .i64 x.used, .int .i64 x.left, .int .i64 x.at_] 36)).ownsRow w3.heap.size 36 8 (.slice A4 k c4) k ((l.take k).flatMap sesE) := ownsRow_below ow6 ((Below.refl _ _).alloc (Nat.le_refl _) _)
        have hn7 := heap_alloc_new w6 (.cells #[.string (bs tk), .string x.author, .int .i64 x.role, .int .i64 x.ends, .int .i64 x.quota, .int .i64 x.used, .int .i64 x.left, .int .i64 x.at_] 36)
        have hsrc := src_row (T := 43) Tryz.underlying43 hn7 (by kernel_rfl)
        have hbs : w3.heap.size ≤ (w6.alloc (.cells #[.string (bs tk), .string x.author, .int .i64 x.role, .int .i64 x.ends, .int .i64 x.quota, .int .i64 x.used, .int .i64 x.left, .int .i64 x.at_] 36)).heap.size := by
          simp only [World.size_alloc]; have := hw6.size; omega
        obtain ⟨ip, hip1, hip2, hip3, hip4⟩ := info_sess'
        have HROW6 := Lib.hid hrow6; have OW7 := Lib.hid ow7; have HSRC := Lib.hid hsrc; have HBS := Lib.hid hbs; have HW6 := Lib.hid hw6
        clear hrow6 ow6 ow7 hn6 hn7 hsrc hbs b6' hw6
        go_simp
        go_wp2_with first | (refine wpList_load_row rfl 36 _ rfl nb rfl _ #[.string (bs tk), .string x.author, .int .i64 x.role, .int .i64 x.ends, .int .i64 x.quota, .int .i64 x.used, .int .i64 x.left, .int .i64 x.at_] _ _ HROW6.out Tryz.underlying36 rfl hi4 ?_) | (at_builtin; refine wpList_append_src _ rfl (.tmp 49) (.tmp 51) 43 43 rfl w3.heap.size 36 ip (.agg #[.string ⟨#[]⟩, .string ⟨#[]⟩, .int .i64 0, .int .i64 0, .int .i64 0, .int .i64 0, .int .i64 0, .int .i64 0]) 8 80 Tryz.underlying43 hip1 hip2 hip3 hip4 rfl _ _ k ((l.take k).flatMap sesE) rfl rfl OW7.out 1 _ HSRC.out ?_ ?_ HBS.out ?_)
        · unfold maxLen; omega
        · omega
        intro v3 w8 ow8 hg8
        have hb8 : Below w3.heap.size w3 w8 := (HW6.out.alloc HW6.out.size _).grown hg8 HBS.out (fun k hk => (OW7.out.lt k hk).1)
        have ow9 : w8.ownsRow w3.heap.size 36 8 v3 (k + 1) ((l.take (k + 1)).flatMap sesE) := by rw [HTK.out]; exact ow8
        have OW9 := Lib.hid ow9; have HB8 := Lib.hid hb8
        clear ow8 hg8 ow9 hb8 hip1 hip2 hip3 hip4
        go_wp2
        go_roundw
        case rel => first | exact ⟨k + 1, by omega, rfl, OW9.out, HB8.out⟩ | ((repeat apply Exists.intro); exact ⟨⟨k + 1, by omega, rfl, OW9.out, HB8.out⟩, rfl⟩)
        case measure => simp [intOf]; omega
      · go_simp
        have hA := MKS.out (w4.drew.alloc (.cells #[.string ⟨#[]⟩, .string ⟨#[]⟩, .int .i64 0, .int .i64 0, .int .i64 0, .int .i64 0, .int .i64 0, .int .i64 0] 36)) ((Below.refl _ _).drew.alloc (Nat.le_refl _) _)
        refine hK _ _ ⟨fun _ => hA, ?_⟩
        clear hK K hS
        have hS := hA
        clear hA
        refine wpAnyI_one 6 (by kernel_rfl) (wpOp_step rfl (fun K hK => ?_)); go_simp
        have bn : (w4.drew.alloc (.cells #[.string ⟨#[]⟩, .string ⟨#[]⟩, .int .i64 0, .int .i64 0, .int .i64 0, .int .i64 0, .int .i64 0, .int .i64 0] 36)).heap[w4.heap.size]? = _ := heap_alloc_new w4.drew (.cells #[.string ⟨#[]⟩, .string ⟨#[]⟩, .int .i64 0, .int .i64 0, .int .i64 0, .int .i64 0, .int .i64 0, .int .i64 0] 36)
        have bA : Below w4.heap.size w4 (w4.drew.alloc (.cells #[.string ⟨#[]⟩, .string ⟨#[]⟩, .int .i64 0, .int .i64 0, .int .i64 0, .int .i64 0, .int .i64 0, .int .i64 0] 36)) := (Below.refl _ _).drew.alloc (Nat.le_refl _) _
        refine (read_ok (w4.drew.alloc (.cells #[.string ⟨#[]⟩, .string ⟨#[]⟩, .int .i64 0, .int .i64 0, .int .i64 0, .int .i64 0, .int .i64 0, .int .i64 0] 36)) (bs tk) x HOK.out.2.ok).mono ?_
        rintro e w5 ⟨rfl, hb5⟩
        have bn5 := heap_below bn hb5
        have b5 := bA.trans (hb5.mono bA.size)
        have hS := MKS.out _ b5
        have B5 := Lib.hid b5
        clear hb5 b5 bn bA
        refine hK _ _ ⟨fun _ => hS, ?_⟩
        clear hK K
        refine wpAnyS_take 7 (v := ?_) rfl (by kernel_rfl) (by kernel_rfl) (by kernel_rfl) rfl (fun _ _ _ h => h) (.inl ⟨rfl, fun w' hS' => ?_⟩) hS ?_; rotate_left 1; focus (have hf := (HSd.out w').1 hS'; (repeat (obtain ⟨_, hf⟩ := hf)); go_simp; (try rfl))
        refine wpAnyS_take 8 (v := ?_) rfl (by kernel_rfl) (by kernel_rfl) (by kernel_rfl) rfl (fun _ _ _ h => h) (.inl ⟨rfl, fun w' hS' => ?_⟩) hS ?_; rotate_left 1; focus (have hf := (HSd.out w').1 hS'; (repeat (obtain ⟨_, hf⟩ := hf)); go_simp; (try rfl))
        refine wpAnyS_take 9 (v := ?_) rfl (by kernel_rfl) (by kernel_rfl) (by kernel_rfl) rfl (fun _ _ _ h => h) (.inl ⟨rfl, fun w' hS' => ?_⟩) hS ?_; rotate_left 1; focus (have hf := (HSd.out w').1 hS'; (repeat (obtain ⟨_, hf⟩ := hf)); go_simp; (try rfl))
        refine wpAnyI_one 11 (by kernel_rfl) (wpOp_step rfl (fun K hK => ?_))
        rw [if_pos]; rotate_left; focus rfl
        have hi3 : (Tryz.prog.info? 36).map (·.size) = some (sessC (bs tk) x).size := by kernel_rfl
        have hall3 : (sessC (bs tk) x).all (·.oneCell') = true := by kernel_rfl
        refine wp_store_row 36 _ _ rfl w4.heap.size (sessC (bs tk) x) rfl rfl 36 _ bn5 hi3 rfl hall3 ?_
        have hn6 := setRow_heap _ _ _ (sessC (bs tk) x) _ _ bn5
        have b6 : Below w4.heap.size w4 (w5.setRow w4.heap.size (sessC (bs tk) x)) := below_setRow B5.out (Nat.le_refl _) _
        have hS := MKS.out _ b6
        refine hK _ _ ⟨fun _ => hS, ?_⟩
        clear hK K
        refine wpAnyS_take 12 (v := ?_) rfl (by kernel_rfl) (by kernel_rfl) (by kernel_rfl) rfl (fun _ _ _ h => h) (.inl ⟨rfl, fun w' hS' => ?_⟩) hS ?_; rotate_left 1; focus (have hf := (HSd.out w').1 hS'; (repeat (obtain ⟨_, hf⟩ := hf)); go_simp; (try rfl))
        refine wpAnyI_done (by kernel_rfl) ?_ _
        have b6' := BW4.out.trans (b6.mono BW4.out.size)
        generalize w5.setRow w4.heap.size (sessC (bs tk) x) = w6 at *
        generalize w4.heap.size = nb at *
        clear hS b6
        have hw6 := HBR.out.trans (b6'.mono HBR.out.size)
        have hrow6 : w6.heap[nb]? = some (.cells #[.string (bs tk), .string x.author, .int .i64 x.role, .int .i64 x.ends, .int .i64 x.quota, .int .i64 x.used, .int .i64 x.left, .int .i64 x.at_] 36 (0, 0)) := hn6
        have hi4 : (Tryz.prog.info? 36).map (·.size) = some (#[Value.string (bs tk), .string x.author, .int .i64 x.role, .int .i64 x.ends, .int .i64 x.quota, .int .i64 x.used, .int .i64 x.left, .int .i64 x.at_] : Array Value).size := by kernel_rfl
        have ow6 : w6.ownsRow w3.heap.size 36 8 (.slice A4 k c4) k ((l.take k).flatMap sesE) := ownsRow_below HOW.out b6'
        have ow7 : (w6.alloc (.cells #[.string (bs tk), .string x.author, .int .i64 x.role, .int .i64 x.ends, .int .i64 x.quota, .int .i64 x.used, .int .i64 x.left, .int .i64 x.at_] 36)).ownsRow w3.heap.size 36 8 (.slice A4 k c4) k ((l.take k).flatMap sesE) := ownsRow_below ow6 ((Below.refl _ _).alloc (Nat.le_refl _) _)
        have hn7 := heap_alloc_new w6 (.cells #[.string (bs tk), .string x.author, .int .i64 x.role, .int .i64 x.ends, .int .i64 x.quota, .int .i64 x.used, .int .i64 x.left, .int .i64 x.at_] 36)
        have hsrc := src_row (T := 43) Tryz.underlying43 hn7 (by kernel_rfl)
        have hbs : w3.heap.size ≤ (w6.alloc (.cells #[.string (bs tk), .string x.author, .int .i64 x.role, .int .i64 x.ends, .int .i64 x.quota, .int .i64 x.used, .int .i64 x.left, .int .i64 x.at_] 36)).heap.size := by
          simp only [World.size_alloc]; have := hw6.size; omega
        obtain ⟨ip, hip1, hip2, hip3, hip4⟩ := info_sess'
        have HROW6 := Lib.hid hrow6; have OW7 := Lib.hid ow7; have HSRC := Lib.hid hsrc; have HBS := Lib.hid hbs; have HW6 := Lib.hid hw6
        clear hrow6 ow6 ow7 hn6 hn7 hsrc hbs b6' hw6
        go_simp
        go_wp2_with first | (refine wpList_load_row rfl 36 _ rfl nb rfl _ #[.string (bs tk), .string x.author, .int .i64 x.role, .int .i64 x.ends, .int .i64 x.quota, .int .i64 x.used, .int .i64 x.left, .int .i64 x.at_] _ _ HROW6.out Tryz.underlying36 rfl hi4 ?_) | (at_builtin; refine wpList_append_src _ rfl (.tmp 49) (.tmp 51) 43 43 rfl w3.heap.size 36 ip (.agg #[.string ⟨#[]⟩, .string ⟨#[]⟩, .int .i64 0, .int .i64 0, .int .i64 0, .int .i64 0, .int .i64 0, .int .i64 0]) 8 80 Tryz.underlying43 hip1 hip2 hip3 hip4 rfl _ _ k ((l.take k).flatMap sesE) rfl rfl OW7.out 1 _ HSRC.out ?_ ?_ HBS.out ?_)
        · unfold maxLen; omega
        · omega
        intro v3 w8 ow8 hg8
        have hb8 : Below w3.heap.size w3 w8 := (HW6.out.alloc HW6.out.size _).grown hg8 HBS.out (fun k hk => (OW7.out.lt k hk).1)
        have ow9 : w8.ownsRow w3.heap.size 36 8 v3 (k + 1) ((l.take (k + 1)).flatMap sesE) := by rw [HTK.out]; exact ow8
        have OW9 := Lib.hid ow9; have HB8 := Lib.hid hb8
        clear ow8 hg8 ow9 hb8 hip1 hip2 hip3 hip4
        go_wp2
        go_roundw
        case rel => first | exact ⟨k + 1, by omega, rfl, OW9.out, HB8.out⟩ | ((repeat apply Exists.intro); exact ⟨⟨k + 1, by omega, rfl, OW9.out, HB8.out⟩, rfl⟩)
        case measure => simp [intOf]; omega
    · obtain rfl : k = l.length := by omega
      rw [List.take_length] at how
      have HOW := Lib.hid (own_base how HW3.out.size); have HWR := Lib.hid hwr
      clear how hwr hbr
      go_wp2_with fail
      go_ret
      exact ⟨_, l, rfl, HLP.out, HOW.out, HWR.out⟩
end Go.Proofs.YtmbfenkmabdokaaGreatDoor
