/- Parts of the proof: Delete, Exp, AwP. -/
import Derived.Test.YtmbfenkmabdokaaGreatDoorR09
import Derived.Test.YtmbfenkmabdokaaGreatDoorR18
import Derived.Test.YtmbfenkmabdokaaGreatDoorR16
import Derived.Test.YtmbfenkmabdokaaGreatDoorR22
set_option linter.all false
namespace Go.Proofs.YtmbfenkmabdokaaGreatDoor
open Go.RowKit Go.Mp

set_option maxRecDepth 100000 in
set_option maxHeartbeats 1000000 in
theorem put_gone (w : World) (s t p b : Nat) (M : KV) (key : ByteArray) (h : St w s t p b M) :
    Calls Tryz.prog 97 #[.pointer (some ⟨s, 0, none⟩), .string key, .agg #[.string ⟨#[]⟩, .bool true]] w fun e w' =>
      e = .returned (.tuple #[]) ∧ St w' s t p b (delM M key) ∧ Kp (· = b) w w' := by
  have cC := committed_ok (w.alloc (.cells #[.string ⟨#[]⟩, .bool true] 158)) s t p b M key (h.below ((Below.refl _ _).alloc (Nat.le_refl _) _))
  have H := Lib.hid h
  have CC := Lib.hid cC
  clear cC h
  go_enter Tryz.func97, Tryz.ntmps97
  go_wp2_with fail
  refine CC.out.mono ?_
  rintro e w2 ⟨rfl, hb2⟩
  have bx : w2.heap[w.heap.size]? = some (.cells #[.string ⟨#[]⟩, .bool true] 158 (0, 0)) := heap_below (heap_alloc_new w _) hb2
  have hb2' : Below w.heap.size w w2 := ((Below.refl _ _).alloc (Nat.le_refl _) _).trans (hb2.mono (by simp))
  have st2 := H.out.below hb2'
  have e0 : w2.cell? ⟨w.heap.size, 0, none⟩ = some (.string ⟨#[]⟩) := by simp [World.cell?, bx]
  have e1 : w2.cell? ⟨w.heap.size, 1, none⟩ = some (.bool true) := by simp [World.cell?, bx]
  have d9 := st2.c9
  have d10 := st2.c10
  obtain ⟨o, hup, his⟩ := run_delete (P := Tryz.prog) 104 9 158 0 Tryz.underlying104 Tryz.underlying9 st2.bat key 9
  rw [del_wantL] at his
  have hup' : (Builtin.delete_ #[104, 9] 0 #[.map (some b), .string key]).run Tryz.prog w2 = .ok (.tuple #[]) (Mp.put w2 b o) := hup
  have hg := put_grown w2 b o
  have kp : Kp (· = b) w2 (Mp.put w2 b o) := ⟨hg.os, hg.tape, hg.output, hg.size, fun k hk hn => hg.block k hk (fun e => hn (Option.some.inj e))⟩
  have ST5 := Lib.hid (st2.turn kp his); have KA := Lib.hid ((Kp.of_below hb2' _).trans kp)
  clear bx hb2 hb2' st2 hup his hg kp
  dsimp only
  go_wp2_with fail
  exact bodyPost_ret (v := .tuple #[]) (by simp [results, Tryz.results97, go_sem]) rfl ⟨rfl, ST5.out, KA.out⟩

set_option maxRecDepth 100000 in
set_option maxHeartbeats 1000000 in
theorem Delete_some (w : World) (s t p b : Nat) (M : KV) (key v : ByteArray) (h : St w s t p b M) (hg : getM M key = some v) :
    Calls Tryz.prog 52 #[.pointer (some ⟨s, 0, none⟩), .string key] w fun e w' =>
      e = .returned (.bool true) ∧ St w' s t p b (delM M key) ∧ Kp (· = b) w w' := by
  have cG := Get_ok w s t p b M key h
  rw [hg] at cG
  have CG := Lib.hid cG; have H := Lib.hid h
  clear cG h hg
  go_enter Tryz.func52, Tryz.ntmps52
  go_wp2_with fail
  refine CG.out.mono ?_
  rintro e w1 ⟨rfl, hb1⟩
  have cP := Lib.hid (put_gone w1 s t p b M key (H.out.below hb1))
  have HB1 := Lib.hid hb1
  clear hb1
  dsimp only
  go_wp2_with fail
  refine cP.out.mono ?_
  rintro e w2 ⟨rfl, hs2, hk2⟩
  have d10 := hs2.c10
  have HS2 := Lib.hid hs2; have HK2 := Lib.hid ((Kp.of_below HB1.out _).trans hk2)
  clear hs2 hk2
  dsimp only
  go_wp2_with fail
  go_ret
  exact ⟨rfl, HS2.out, HK2.out⟩
end Go.Proofs.YtmbfenkmabdokaaGreatDoor

namespace Go.Proofs.YtmbfenkmabdokaaGreatDoor
open Go.RowKit Go.Mp

theorem flat_at {α β : Type} (f : α → List β) (n : Nat) (hf : ∀ x, (f x).length = n) : ∀ (l : List α) (k j : Nat) (hk : k < l.length), j < n → (l.flatMap f)[k * n + j]? = (f l[k])[j]?
  | [], k, _, hk, _ => by simp at hk
  | x :: l, 0, j, _, hj => by
    rw [List.flatMap_cons, Nat.zero_mul, Nat.zero_add, List.getElem?_append_left (by rw [hf]; exact hj)]; rfl
  | x :: l, k + 1, j, hk, hj => by
    rw [List.flatMap_cons, List.getElem?_append_right (by rw [hf, Nat.add_mul]; omega), hf]
    rw [show (k + 1) * n + j - n = k * n + j by rw [Nat.add_mul]; omega]
    exact flat_at f n hf l k j (by simpa using hk) hj
theorem ses_at {w : World} {base : Nat} {A : Option Addr} {c : Nat} {l : SL} {k : Nat} (h : w.ownsRow base 36 8 (.slice A l.length c) l.length (l.flatMap sesE)) (hk : k < l.length) :
    ∃ g, A = some ⟨g, 0, none⟩ ∧ base ≤ g ∧ g < w.heap.size ∧ w.rangeAt g (k * 8) (sesE l[k]) := by
  rcases h.2 with ⟨_, h0⟩ | ⟨g, cap, cur, h0, h1, h2, _⟩
  · omega
  · injection h0 with hA _ hc
    subst hA
    refine ⟨g, rfl, h1, lt_of_heap h2, fun j v hv => ?_⟩
    have hj : j < 8 := by
      have := (List.getElem?_eq_some_iff.1 hv).1; simpa [sesE, sessC] using this
    rw [h.cellAt (k * 8 + j) (by omega), flat_at sesE 8 (fun _ => rfl) l k j hk hj]
    exact hv
theorem one_ne {l : SL} (ho : (l.map (·.1)).Nodup) (k : Nat) (hk : k < l.length) : ∀ p ∈ l.take k, p.1 ≠ l[k].1 := by
  intro p hp he
  obtain ⟨i, hi, rfl⟩ := List.getElem_of_mem hp
  rw [List.getElem_take] at he
  have hi2 : i < k := by rw [List.length_take] at hi; omega
  have h1 : (l.map (·.1))[i]'(by rw [List.length_map]; omega) = (l.map (·.1))[k]'(by rw [List.length_map]; omega) := by simpa using he
  exact absurd h1 (List.pairwise_iff_getElem.1 ho i k (by rw [List.length_map]; omega) (by rw [List.length_map]; omega) hi2)
theorem delO_snoc (now : Int) (L l : SL) (q : Bytes × Sess) : delO now L (l ++ [q]) = if oldS now q.2 then delL (delO now L l) q.1 else delO now L l := by
  unfold delO; rw [List.foldl_append]; rfl
def authV (now : Int) (l : SL) : List Value := (l.filter fun p => oldS now p.2).map fun p => .string p.2.author
theorem authV_snoc (now : Int) (l : SL) (q : Bytes × Sess) : authV now (l ++ [q]) = authV now l ++ if oldS now q.2 then [.string q.2.author] else [] := by
  unfold authV
  rw [List.filter_append, List.map_append]
  congr 1
  cases h : oldS now q.2 <;> simp [h]
theorem info_str : (Tryz.prog.info? 9).map (fun i => (i.zero, i.size, i.bytes)) = some (some (.string ⟨#[]⟩), 1, 16) := by kernel_rfl
theorem info_str' : ∃ i, Tryz.prog.info? 9 = some i ∧ i.zero = some (.string ⟨#[]⟩) ∧ i.size = 1 ∧ i.bytes = 16 := by
  have h := info_str
  cases hi : Tryz.prog.info? 9 with
  | none => rw [hi] at h; cases h
  | some i => rw [hi] at h; simp at h; exact ⟨i, rfl, h.1, h.2.1, h.2.2⟩
theorem authV_len (now : Int) (l : SL) : (authV now l).length ≤ l.length := by
  unfold authV; rw [List.length_map]; exact List.length_filter_le _ _

set_option maxRecDepth 100000 in
set_option maxHeartbeats 2000000 in
theorem Expire_L (w : World) (s t p b : Nat) (L : SL) (now : Int) (h : Ss w s t p b L) (hL : L.length ≤ 1000) :
    Calls Tryz.prog 19 #[.pointer (some ⟨s, 0, none⟩), .int .i64 now] w fun e w' => ∃ (v : Value) (l : SL), e = .returned v ∧ l.Perm L ∧ w'.ownsRow w.heap.size 9 1 v (authV now l).length (authV now l) ∧
      Ss w' s t p b (L.filter fun p => !oldS now p.2) ∧ Kp (· = b) w w' := by
  have cA := Lib.hid (SAll_ok w s t p b L h hL)
  have HS := Lib.hid h; have HLL := Lib.hid hL
  clear h hL
  go_enter Tryz.func19, Tryz.ntmps19
  go_wp2_with fail
  refine cA.out.mono ?_
  rintro e w1 ⟨v, l, rfl, hp, how, hb1⟩
  obtain ⟨A, c, rfl⟩ := own_form3 how
  have hln : l.length ≤ 1000 := by rw [hp.length_eq]; exact HLL.out
  have hlb : b < w.heap.size := HS.out.st.lb
  have hone : (l.map (·.1)).Nodup := (hp.map (·.1)).nodup_iff.2 HS.out.ok.one
  have HP := Lib.hid hp; have HOW := Lib.hid how; have HB1 := Lib.hid hb1; have HONE := Lib.hid hone; have HLB := Lib.hid hlb
  clear hp how hb1 hone hlb
  dsimp only
  go_wp2_with fail
  go_loopw [5, 11] (fun v i wr => ∃ k : Nat, k ≤ l.length ∧ i = .int .i64 k ∧ wr.ownsRow w1.heap.size 9 1 v (authV now (l.take k)).length (authV now (l.take k)) ∧ Ss wr s t p b (delO now L (l.take k)) ∧ Kp (· = b) w1 wr) (fun _ i _ => l.length - (intOf i).toNat)
  case atStart => exact ⟨0, Nat.zero_le _, rfl, World.ownsRow_nil _ _ _ _, HS.out.below HB1.out, Kp.refl _ _⟩
  case round =>
    obtain ⟨k, hk, rfl, hout, hss, hkp⟩ := hrel
    obtain ⟨A4, c4, rfl⟩ := own_form3 hout
    by_cases hlt : k < l.length
    · obtain ⟨g, rfl, hg1, hg2, hrg⟩ := ses_at HOW.out hlt
      have hgb : g ≠ b := by have := HLB.out; omega
      have hrg2 : wr.rangeAt g (k * 8) (sesE l[k]) := fun j v hv => by
        rw [← hrg j v hv]; exact World.cell?_of_block (hkp.block _ hg2 hgb)
      have htk : l.take (k + 1) = l.take k ++ [l[k]] := List.take_succ_eq_append_getElem hlt
      have hne := one_ne HONE.out k hlt
      have hmem : l[k] ∈ L := HP.out.mem_iff.1 (List.getElem_mem hlt)
      have hgl := getL_delO (now := now) HS.out.ok.one hmem hne
      have hok := HS.out.ok.tok l[k] hmem
      obtain ⟨tk, x, htx⟩ : ∃ tk x, l[k] = (tk, x) := ⟨_, _, rfl⟩
      rw [htx] at hrg2 htk hok hgl
      simp only at hok hgl
      have hgm := get_kv (delO now L (l.take k)) tk
      rw [hgl] at hgm
      have hcl : k * 8 + 8 ≤ 8000 := by omega
      have HTK := Lib.hid htk; have HOK := Lib.hid hok; have HOUT := Lib.hid hout; have HSS := Lib.hid hss; have HKP := Lib.hid hkp; have HGM := Lib.hid hgm
      have hrg3 : wr.rangeAt g (k * 8) [.string (bs tk), .string x.author, .int .i64 x.role, .int .i64 x.ends, .int .i64 x.quota, .int .i64 x.used, .int .i64 x.left, .int .i64 x.at_] := hrg2
      have HRG := Lib.hid hrg3
      have hi2 : (Tryz.prog.info? 36).map (·.size) = some [Value.string (bs tk), .string x.author, .int .i64 x.role, .int .i64 x.ends, .int .i64 x.quota, .int .i64 x.used, .int .i64 x.left, .int .i64 x.at_].length := by kernel_rfl
      clear htk hok hout hss hkp hgm hrg hrg2 hrg3 htx hne hmem hgl hgb
      by_cases hold : (x.ends : Int) ≤ now
      · have ho : oldS now x = true := by unfold oldS; exact decide_eq_true hold
        have HO := Lib.hid ho
        clear ho
        go_wp2_with first | (refine wpList_load_mid rfl 36 _ rfl g (k * 8) rfl [.string (bs tk), .string x.author, .int .i64 x.role, .int .i64 x.ends, .int .i64 x.quota, .int .i64 x.used, .int .i64 x.left, .int .i64 x.at_] _ HRG.out Tryz.underlying36 rfl hi2 ?_) | fail
        have hal : Below wr.heap.size wr (wr.alloc (.cells #[.string (bs tk), .string x.author, .int .i64 x.role, .int .i64 x.ends, .int .i64 x.quota, .int .i64 x.used, .int .i64 x.left, .int .i64 x.at_] 36)) := (Below.refl _ _).alloc (Nat.le_refl _) _
        have hx2 := heap_alloc_new wr (.cells #[.string (bs tk), .string x.author, .int .i64 x.role, .int .i64 x.ends, .int .i64 x.quota, .int .i64 x.used, .int .i64 x.left, .int .i64 x.at_] 36)
        refine (place_ok _ tk HOK.out.1).mono ?_
        rintro e w4 ⟨rfl, hb4⟩
        have b4 := hal.trans (hb4.mono hal.size)
        have hx4 := heap_below hx2 hb4
        have cD := Delete_some w4 s t p b (kvOf (delO now L (l.take k))) (bs (placeB tk)) (bs x.enc) (HSS.out.below b4).st HGM.out
        rw [del_kv] at cD
        have hbw : wr.heap.size ≠ b := by have := HSS.out.st.lb; omega
        have CD := Lib.hid cD; have B4 := Lib.hid b4; have HX4 := Lib.hid hx4
        clear hal hx2 hb4 b4 hx4 cD
        dsimp only
        go_wp2_with fail
        refine CD.out.mono ?_
        rintro e w5 ⟨rfl, hs5, hk5⟩
        have hx5 := heap_kp0 HX4.out hk5 hbw
        have c51 : w5.cell? ⟨wr.heap.size, 1, none⟩ = some (.string x.author) := by rw [World.cell?]; simp only [hx5]; rfl
        have hk5' := (Kp.of_below B4.out (· = b)).trans hk5
        have ow5 : w5.ownsRow w1.heap.size 9 1 (.slice A4 (authV now (l.take k)).length c4) (authV now (l.take k)).length (authV now (l.take k)) := ownsRow_heap HOUT.out (fun z hz => hk5'.block z (HOUT.out.lt z hz).2 (fun e => by
          have h1 := (HOUT.out.lt z hz).1
          have h2 := HLB.out
          have h3 := HB1.out.size
          omega))
        have ow6 : (w5.alloc (.cells #[.string x.author] 9)).ownsRow w1.heap.size 9 1 (.slice A4 (authV now (l.take k)).length c4) (authV now (l.take k)).length (authV now (l.take k)) := ownsRow_below ow5 ((Below.refl _ _).alloc (Nat.le_refl _) _)
        have hn6 := heap_alloc_new w5 (.cells #[.string x.author] 9)
        have hsrc := src_row (T := 41) Tryz.underlying41 hn6 (by kernel_rfl)
        have hbs : w1.heap.size ≤ (w5.alloc (.cells #[.string x.author] 9)).heap.size := by
          simp only [World.size_alloc]; have := HKP.out.size; have := hk5'.size; omega
        obtain ⟨ip, hip1, hip2, hip3, hip4⟩ := info_str'
        have e1 : authV now (l.take (k + 1)) = authV now (l.take k) ++ [.string x.author] := by rw [HTK.out, authV_snoc, HO.out]; rfl
        have e2 : delO now L (l.take (k + 1)) = delL (delO now L (l.take k)) tk := by rw [HTK.out, delO_snoc, HO.out]; rfl
        have hs5' : Ss w5 s t p b (delL (delO now L (l.take k)) tk) := ⟨hs5, HSS.out.ok.filter _⟩
        rw [← e2] at hs5'
        have hal5 := authV_len now (l.take k)
        have htl : (l.take k).length ≤ 1000 := by rw [List.length_take]; omega
        have E1 := Lib.hid e1; have HS5 := Lib.hid hs5'; have HK5 := Lib.hid (HKP.out.trans hk5'); have OW6 := Lib.hid ow6; have HSRC := Lib.hid hsrc; have HBS := Lib.hid hbs; have HLB2 := Lib.hid HSS.out.st.lb
        have hszk := Lib.hid hk5'.size
        clear hs5 hs5' hk5 hk5' hx5 ow5 ow6 hn6 hsrc hbs e1 e2
        obtain ⟨m, hm⟩ : ∃ m : Nat, (authV now (l.take k)).length = m := ⟨_, rfl⟩
        have HM := Lib.hid hm
        rw [hm] at hal5 OW6 ⊢
        clear hm
        dsimp only
        go_wp2_with first | (at_builtin; refine wpList_append_src _ rfl (.tmp 26) (.tmp 29) 41 41 rfl w1.heap.size 9 ip (.string ⟨#[]⟩) 1 16 Tryz.underlying41 hip1 hip2 hip3 hip4 rfl _ _ m (authV now (l.take k)) rfl rfl OW6.out 1 _ HSRC.out ?_ ?_ HBS.out ?_) | fail
        · unfold maxLen; omega
        · omega
        intro v3 w8 ow8 hg8
        have hb8 : Below w1.heap.size w5 w8 := ((Below.refl _ _).alloc (Nat.le_trans HKP.out.size hszk.out) _).grown hg8 HBS.out (fun k hk => (OW6.out.lt k hk).1)
        have hss8 : Ss w8 s t p b (delO now L (l.take (k + 1))) := ⟨HS5.out.st.keep (F := fun z => w1.heap.size ≤ z) ⟨hb8.os, hb8.tape, hb8.output, hb8.size, fun z _ hF => hb8.block z (by omega)⟩
          (by have := HS.out.st.ls; have := HB1.out.size; omega) (by have := HS.out.st.lt; have := HB1.out.size; omega) (by have := HS.out.st.lb; have := HB1.out.size; omega), HS5.out.ok⟩
        have hkp8 : Kp (· = b) w1 w8 := ⟨hb8.os.trans HK5.out.os, hb8.tape.trans HK5.out.tape, hb8.output.trans HK5.out.output, Nat.le_trans HK5.out.size hb8.size, fun z hz hne => (hb8.block z hz).trans (HK5.out.block z hz hne)⟩
        have ow9 : w8.ownsRow w1.heap.size 9 1 v3 (authV now (l.take (k + 1))).length (authV now (l.take (k + 1))) := by
          rw [E1.out, List.length_append, HM.out]; exact ow8
        have N1 := Lib.hid ow9; have N2 := Lib.hid hss8; have N3 := Lib.hid hkp8
        clear ow8 hg8 ow9 hss8 hkp8 hb8 hip1 hip2 hip3 hip4
        go_wp2
        go_roundw
        case rel => first | exact ⟨k + 1, by omega, rfl, N1.out, N2.out, N3.out⟩ | ((repeat apply Exists.intro); exact ⟨⟨k + 1, by omega, rfl, N1.out, N2.out, N3.out⟩, rfl⟩)
        case measure => simp [intOf]; omega
      · have ho : oldS now x = false := by unfold oldS; exact decide_eq_false hold
        have HO := Lib.hid ho
        clear ho
        go_wp2_with first | (refine wpList_load_mid rfl 36 _ rfl g (k * 8) rfl [.string (bs tk), .string x.author, .int .i64 x.role, .int .i64 x.ends, .int .i64 x.quota, .int .i64 x.used, .int .i64 x.left, .int .i64 x.at_] _ HRG.out Tryz.underlying36 rfl hi2 ?_) | fail
        have hal : Below wr.heap.size wr (wr.alloc (.cells #[.string (bs tk), .string x.author, .int .i64 x.role, .int .i64 x.ends, .int .i64 x.quota, .int .i64 x.used, .int .i64 x.left, .int .i64 x.at_] 36)) := (Below.refl _ _).alloc (Nat.le_refl _) _
        have e1 : authV now (l.take (k + 1)) = authV now (l.take k) := by rw [HTK.out, authV_snoc, HO.out]; simp
        have e2 : delO now L (l.take (k + 1)) = delO now L (l.take k) := by rw [HTK.out, delO_snoc, HO.out]; rfl
        have n1 := ownsRow_below HOUT.out hal
        have n2 := HSS.out.below hal
        have n3 := HKP.out.trans (Kp.of_below hal _)
        rw [← e1] at n1
        rw [← e2] at n2
        have N1 := Lib.hid n1; have N2 := Lib.hid n2; have N3 := Lib.hid n3
        have hl1 : (authV now (l.take (k + 1))).length = (authV now (l.take k)).length := by rw [e1]
        rw [← hl1]
        clear n1 n2 n3 hal e1 e2 hl1
        go_roundw
        case rel => first | exact ⟨k + 1, by omega, rfl, N1.out, N2.out, N3.out⟩ | ((repeat apply Exists.intro); exact ⟨⟨k + 1, by omega, rfl, N1.out, N2.out, N3.out⟩, rfl⟩)
        case measure => simp [intOf]; omega
    · obtain rfl : k = l.length := by omega
      rw [List.take_length] at hout hss ⊢
      rw [delO_all now HS.out.ok.one HP.out] at hss
      have HOUT := Lib.hid (own_base hout HB1.out.size); have HSS := Lib.hid hss; have HKP := Lib.hid ((Kp.of_below HB1.out (· = b)).trans hkp)
      clear hout hss hkp
      go_wp2_with fail
      go_ret
      exact ⟨_, l, rfl, HP.out, HOUT.out, HSS.out, HKP.out⟩
end Go.Proofs.YtmbfenkmabdokaaGreatDoor

namespace Go.Proofs.YtmbfenkmabdokaaGreatDoor
open Go.RowKit Go.Mp

theorem below_kp {B b : Nat} {w w1 w2 : World} (h : Below B w w1) (k : Kp (· = b) w1 w2) (hb : B ≤ b) (hB : B ≤ w.heap.size) : Below B w w2 :=
  ⟨k.os.trans h.os, k.tape.trans h.tape, k.output.trans h.output, Nat.le_trans h.size k.size, fun z hz => (k.block z (Nat.lt_of_lt_of_le (Nat.lt_of_lt_of_le hz hB) h.size) (by omega)).trans (h.block z hz)⟩
theorem getL_one (t : Bytes) (x : Sess) : getL [(t, x)] t = some x := by unfold getL; simp
theorem putL_one (t : Bytes) (x y : Sess) : putL [(t, x)] t y = [(t, y)] := by unfold putL; simp
theorem putL_nil (t : Bytes) (x : Sess) : putL [] t x = [(t, x)] := rfl
theorem firstN_at {code : Nat → Int} {n k : Nat} (hk : k < n) (hz : ∀ j, j < k → code j = 0) (h : code k ≠ 0) : firstN code n = code k := by
  induction n with
  | zero => omega
  | succ n ih =>
    by_cases e : k = n
    · subst e
      have h0 : ∀ m, m ≤ k → firstN code m = 0 := by
        intro m hm
        induction m with
        | zero => rfl
        | succ m ih2 => rw [firstN, if_pos (ih2 (by omega))]; exact hz m (by omega)
      rw [firstN, if_pos (h0 k (Nat.le_refl _))]
    · have := ih (by omega)
      rw [firstN, if_neg (by rw [this]; exact h)]; exact this
/-- a cookie that was issued is told -/
theorem findR_cookie (L : SL) (k t : Bytes) (x : Sess) (now : Int) (ht : isTok t = true) (hg : getL L t = some x) (hn : now < (x.ends : Int)) : findR L k (cookieB k t) now = (sessC (bs t) x, 0) := by
  unfold findR; rw [tokenO_cookie k t ht]; simp only; rw [hg]; simp only; rw [if_neg (by omega)]
theorem findR_late (L : SL) (k t : Bytes) (x : Sess) (now : Int) (ht : isTok t = true) (hg : getL L t = some x) (hn : (x.ends : Int) ≤ now) : findR L k (cookieB k t) now = (zeroS, 191) := by
  unfold findR; rw [tokenO_cookie k t ht]; simp only; rw [hg]; simp only; rw [if_pos hn]
theorem findR_none (L : SL) (k t : Bytes) (now : Int) (ht : isTok t = true) (hg : getL L t = none) : findR L k (cookieB k t) now = (zeroS, 190) := by
  unfold findR; rw [tokenO_cookie k t ht]; simp only; rw [hg]
theorem spendR_live (L : SL) (t : Bytes) (x : Sess) (now cost role : Int) (ht : isTok t = true) (hg : getL L t = some x) (hn : now < (x.ends : Int)) : spendR L t now cost role = spendC x now cost role := by
  unfold spendR; rw [if_pos ht, hg]; simp only; rw [if_neg (by omega)]
theorem cookie_size (k t : Bytes) (ht : isTok t = true) : (bs (cookieB k t)).size = 73 := by rw [bs_size, cookieB_length k t (tok_len t ht)]
end Go.Proofs.YtmbfenkmabdokaaGreatDoor
