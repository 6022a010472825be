/- Parts of the proof: Purse, HoldP, Holds1. -/
import Derived.Test.YtmbfenkmabdokaaGreatDoorR16
import Derived.Test.YtmbfenkmabdokaaGreatDoorR27
import Derived.Test.YtmbfenkmabdokaaGreatDoorR32
import Derived.Test.YtmbfenkmabdokaaGreatDoorR36
set_option linter.all false
namespace Go.Proofs.YtmbfenkmabdokaaGreatDoor

/-- how many of the times lie in a .. b -/
def cntN (l : List Nat) (a b : Nat) : Nat := (l.filter fun t => decide (a ≤ t) && decide (t ≤ b)).length
theorem cntN_snoc (l : List Nat) (t a b : Nat) : cntN (l ++ [t]) a b = cntN l a b + if a ≤ t ∧ t ≤ b then 1 else 0 := by
  unfold cntN
  rw [List.filter_append, List.length_append]
  congr 1
  by_cases h1 : a ≤ t
  · by_cases h2 : t ≤ b
    · simp [h1, h2]
    · simp [h1, h2]
  · simp [h1]
theorem cntN_mono {l : List Nat} {a b c : Nat} (h : ∀ t ∈ l, t ≤ b) : cntN l a b = cntN l a (max b c) := by
  unfold cntN
  congr 1
  apply List.filter_congr
  intro t ht
  have h1 := h t ht
  have h2 : t ≤ max b c := by omega
  simp [h1, h2]
theorem cntN_all {l : List Nat} {a b c : Nat} (h : ∀ t ∈ l, t ≤ b) (hc : b ≤ c) : cntN l a c = cntN l a b := by
  rw [cntN_mono h (c := c)]
  congr 1
  omega
/-- what holds at each step of the purse -/
structure Purse (x : Sess) (now : Nat) (ts : List Nat) : Prop where
  clock : x.at_ ≤ now
  past : ∀ t ∈ ts, t ≤ now
  fill : ∀ a, cntN ts a now = 0 ∨ 100 * (x.left + cntN ts a now) + a ≤ x.at_ + 2099
  most : ∀ a b, cntN ts a b = 0 ∨ 100 * cntN ts a b + a ≤ b + 2099
theorem Purse.wait {x : Sess} {now : Nat} {ts : List Nat} (h : Purse x now ts) (d : Nat) : Purse x (now + d) ts := by
  refine ⟨by have := h.clock; omega, fun t ht => by have := h.past t ht; omega, fun a => ?_, h.most⟩
  rw [cntN_all h.past (by omega)]
  exact h.fill a
theorem Purse.spend {x : Sess} {now : Nat} {ts : List Nat} (h : Purse x now ts) (c : Nat) (hp : 0 < (x.refill now).left) : Purse (x.spend now c) now (ts ++ [now]) := by
  have hc := h.clock
  have hat : (x.spend now c).at_ = (x.refill now).at_ := rfl
  have hle : (x.spend now c).left = (x.refill now).left - 1 := rfl
  have key : (x.refill now).at_ ≤ now ∧ ∀ a k, 100 * (x.left + k) + a ≤ x.at_ + 2099 → 100 * ((x.refill now).left + k) + a ≤ (x.refill now).at_ + 2099 := by
    unfold Sess.refill
    split
    · simp only
      refine ⟨by omega, fun a k hk => by omega⟩
    · simp only
      refine ⟨by omega, fun a k hk => by omega⟩
  have new : ∀ a, a ≤ now → 100 * (x.refill now).left + a ≤ (x.refill now).at_ + 2099 := by
    intro a ha
    unfold Sess.refill
    split
    · simp only; omega
    · simp only; omega
  have hf : ∀ a, cntN (ts ++ [now]) a now = 0 ∨ 100 * ((x.spend now c).left + cntN (ts ++ [now]) a now) + a ≤ (x.spend now c).at_ + 2099 := by
    intro a
    rw [cntN_snoc, hat, hle]
    by_cases ha : a ≤ now
    · right
      rw [if_pos ⟨ha, Nat.le_refl _⟩]
      rcases h.fill a with h0 | h1
      · rw [h0]; have := new a ha; omega
      · have := key.2 a _ h1; omega
    · rw [if_neg (fun h => ha h.1)]
      rcases h.fill a with h0 | h1
      · left; omega
      · right; have := key.2 a _ h1; omega
  have hpast : ∀ t ∈ ts ++ [now], t ≤ now := by
    intro t ht
    rcases List.mem_append.1 ht with ht | ht
    · exact h.past t ht
    · simp at ht; omega
  refine ⟨by rw [hat]; exact key.1, hpast, hf, fun a b => ?_⟩
  by_cases hb : now ≤ b
  · rw [cntN_all hpast hb]
    rcases hf a with h0 | h1
    · exact Or.inl h0
    · right; rw [hat] at h1; have := key.1; omega
  · rw [cntN_snoc, if_neg (fun h => hb h.2)]
    exact h.most a b
theorem Purse.end_ {x : Sess} {now : Nat} {ts : List Nat} (h : Purse x now ts) (a b : Nat) (hab : a ≤ b) : cntN ts a b ≤ 20 + (b - a) / 100 + 1 := by
  rcases h.most a b with h0 | h1
  · omega
  · omega
end Go.Proofs.YtmbfenkmabdokaaGreatDoor

namespace Go.Proofs.YtmbfenkmabdokaaGreatDoor
open Go.RowKit Go.Mp

def xH (q : Nat) : Sess := newS ⟨#[97, 110, 110]⟩ 2 1125899906842624 (q : Int) 0
theorem hoR {q : Nat} (hq : q < 1024) : issueR [] dr0 ⟨#[97, 110, 110]⟩ 2 1125899906842624 (q : Int) 0 = 0 := by
  unfold issueR issueC
  refine firstN_zero fun j hj => ?_
  obtain rfl | rfl | rfl | rfl | rfl | rfl | rfl : j = 0 ∨ j = 1 ∨ j = 2 ∨ j = 3 ∨ j = 4 ∨ j = 5 ∨ j = 6 := by omega
  · rfl
  · rfl
  · show (if isName (⟨#[97, 110, 110]⟩ : ByteArray).data.toList then 0 else 171) = (0 : Int)
    rw [show isName (⟨#[97, 110, 110]⟩ : ByteArray).data.toList = true by kernel_rfl]; rfl
  · rfl
  · show (if (decide ((0 : Int) ≤ 1125899906842624 ∧ (1125899906842624 : Int) ≤ 1125899906842624) && (decide (0 ≤ (q : Int) ∧ (q : Int) ≤ 1099511627776) && decide ((0 : Int) ≤ 0 ∧ (0 : Int) ≤ 1125899906842624))) then 0 else 1) = (0 : Int)
    rw [decide_eq_true (show 0 ≤ (q : Int) ∧ (q : Int) ≤ 1099511627776 by omega)]; rfl
  · rfl
  · rfl
theorem hoE {q : Nat} (hq : q < 1024) (k : ByteArray) : issueE [] k dr0 ⟨#[97, 110, 110]⟩ 2 1125899906842624 (q : Int) 0 = #[.string (bs (cookieB k.data.toList tk0)), .int .i64 0] := by unfold issueE; rw [hoR hq]; rfl
theorem hoS {q : Nat} (hq : q < 1024) : issueS [] dr0 ⟨#[97, 110, 110]⟩ 2 1125899906842624 (q : Int) 0 = [(tk0, xH q)] := by unfold issueS; rw [hoR hq]; rfl
/-- what stays of the session -/
structure Held (x : Sess) (q : Nat) : Prop where
  role : x.role = 2
  ends : x.ends = 1125899906842624
  quota : x.quota = q
theorem Held.start (q : Nat) : Held (xH q) q := ⟨rfl, rfl, by show ((q : Int)).toNat = q; omega⟩
theorem Held.spend {x : Sess} {q : Nat} (h : Held x q) (n c : Nat) : Held (x.spend n c) q := by
  obtain ⟨_, u2, u3, u4, _⟩ := refill_used x n
  exact ⟨u2.trans h.role, u3.trans h.ends, u4.trans h.quota⟩
theorem Purse.start (q : Nat) : Purse (xH q) 0 [] := ⟨by show (0 : Int).toNat ≤ 0; decide, by simp, fun a => Or.inl rfl, fun a b => Or.inl rfl⟩
theorem ho_cases {x : Sess} {q n c : Nat} (h : Held x q) (hn : n ≤ 25500) (hc : c < 16) :
    spendC x (n : Int) (c : Int) 1 = 0 ∨ spendC x (n : Int) (c : Int) 1 = 193 ∨ spendC x (n : Int) (c : Int) 1 = 194 := by
  have h0 : spendN x (n : Int) (c : Int) 1 0 = 0 := by
    have hw : codeW (n : Int) (c : Int) = true := by
      unfold codeW
      rw [decide_eq_true (show 0 ≤ (c : Int) ∧ (c : Int) ≤ 1099511627776 by omega), decide_eq_true (show 0 ≤ (n : Int) ∧ (n : Int) ≤ 1125899906842624 by omega)]; rfl
    show (if codeW (n : Int) (c : Int) then 0 else 1) = (0 : Int)
    rw [hw]; rfl
  have h1 : spendN x (n : Int) (c : Int) 1 1 = 0 := by
    simp only [spendN, codeR, h.role]; rfl
  have h2 : spendN x (n : Int) (c : Int) 1 2 = 0 ∨ spendN x (n : Int) (c : Int) 1 2 = 193 := by
    simp only [spendN]; split
    · exact Or.inl rfl
    · exact Or.inr rfl
  have h3 : spendN x (n : Int) (c : Int) 1 3 = 0 ∨ spendN x (n : Int) (c : Int) 1 3 = 194 := by
    simp only [spendN]; split
    · exact Or.inl rfl
    · exact Or.inr rfl
  unfold spendC
  rcases h2 with h2 | h2
  · rcases h3 with h3 | h3
    · left
      refine firstN_zero fun j hj => ?_
      obtain rfl | rfl | rfl | rfl : j = 0 ∨ j = 1 ∨ j = 2 ∨ j = 3 := by omega
      · exact h0
      · exact h1
      · exact h2
      · exact h3
    · right; right
      rw [firstN_at (k := 3) (by omega) ?_ (by rw [h3]; decide), h3]
      intro j hj
      obtain rfl | rfl | rfl : j = 0 ∨ j = 1 ∨ j = 2 := by omega
      · exact h0
      · exact h1
      · exact h2
  · right; left
    rw [firstN_at (k := 2) (by omega) ?_ (by rw [h2]; decide), h2]
    intro j hj
    obtain rfl | rfl : j = 0 ∨ j = 1 := by omega
    · exact h0
    · exact h1
theorem ho_spend {x : Sess} {q n c : Nat} (h : Held x q) (hn : n ≤ 25500) : spendR [(tk0, x)] tk0 (n : Int) (c : Int) 1 = spendC x (n : Int) (c : Int) 1 :=
  spendR_live _ _ _ _ _ _ tok0 (getL_one _ _) (by rw [h.ends]; omega)
theorem ho_state {x : Sess} {q n c : Nat} (h : Held x q) (hn : n ≤ 25500) (h0 : spendC x (n : Int) (c : Int) 1 = 0) : spendS [(tk0, x)] tk0 (n : Int) (c : Int) 1 = [(tk0, x.spend n c)] := by
  unfold spendS
  rw [if_pos (by rw [ho_spend h hn]; exact h0), getL_one]
  exact putL_one _ _ _
theorem ho_stay {x : Sess} {q n c : Nat} (h : Held x q) (hn : n ≤ 25500) (h0 : spendC x (n : Int) (c : Int) 1 ≠ 0) : spendS [(tk0, x)] tk0 (n : Int) (c : Int) 1 = [(tk0, x)] := by
  unfold spendS
  rw [if_neg (by rw [ho_spend h hn]; exact h0)]
def tsV (ts : List Nat) : List Value := ts.map fun t : Nat => .int .i64 (t : Int)
theorem tsV_snoc (ts : List Nat) (t : Nat) : tsV (ts ++ [t]) = tsV ts ++ [.int .i64 (t : Int)] := by unfold tsV; simp
theorem cnt_take (ts : List Nat) (a b m : Nat) (h : m < ts.length) : cntN (ts.take (m + 1)) a b = cntN (ts.take m) a b + if a ≤ ts[m] ∧ ts[m] ≤ b then 1 else 0 := by
  rw [List.take_succ_eq_append_getElem h, cntN_snoc]
theorem cnt_le (ts : List Nat) (a b : Nat) : cntN ts a b ≤ ts.length := List.length_filter_le _ _
end Go.Proofs.YtmbfenkmabdokaaGreatDoor

namespace Go.Proofs.YtmbfenkmabdokaaGreatDoor
open Go.RowKit Go.Mp

/-- what the first loop knows -/
structure HoR (n1 n2 q : Nat) (w6 wr : World) (s t p b base k now spent : Nat) (ts : List Nat) (x : Sess) (vt : Value) : Prop where
  k100 : k ≤ 100
  kn1 : k ≤ n1
  kn2 : k ≤ n2
  clock : now ≤ k * 255
  len : ts.length ≤ k
  held : Held x q
  used : x.used = spent
  purse : Purse x now ts
  ss : Ss wr s t p b [(tk0, x)]
  kp : Kp (· = b) w6 wr
  tm : wr.ownsRow base 3 1 vt ts.length (tsV ts)
theorem HoR.fine {n1 n2 q : Nat} {w6 wr : World} {s t p b base k now spent : Nat} {ts : List Nat} {x : Sess} {vt : Value} (h : HoR n1 n2 q w6 wr s t p b base k now spent ts x vt) : x.Fine :=
  (h.ss.ok.tok (tk0, x) (List.mem_singleton_self _)).2

set_option maxRecDepth 100000 in
set_option maxHeartbeats 8000000 in
theorem Holds_ok (w : World) (quota : Int) (A1 : Option Addr) (n1 c1 : Nat) (A2 : Option Addr) (n2 c2 : Nat) (from_ to_ : Int) (hE : EnvN w)
    (hA1 : ∀ j, j < n1 → ∃ ad z, A1 = some ad ∧ w.cell? (ad.add j) = some (.int .i64 z)) (hn1 : n1 ≤ maxLen) (hA2 : ∀ j, j < n2 → ∃ ad z, A2 = some ad ∧ w.cell? (ad.add j) = some (.int .i64 z)) (hn2 : n2 ≤ maxLen) :
    Calls Tryz.prog 4 #[.int .i64 quota, .slice A1 n1 c1, .slice A2 n2 c2, .int .i64 from_, .int .i64 to_] w fun e w' => e = .returned (.bool true) ∧ Below w.heap.size w w' := by
  have cW := Lib.hid (awake_ok w hE)
  have HE := Lib.hid hE; have HA1 := Lib.hid hA1; have HA2 := Lib.hid hA2
  clear hE hA1 hA2 hn1 hn2
  have hm := mk_draw
  obtain ⟨q, hq, hq1⟩ : ∃ q : Nat, bits .and .i64 quota 1023 = q ∧ q < 1024 := by rw [mask_1023]; exact mod_nat quota 1024 (by omega)
  obtain ⟨fa, hfa, hfa1⟩ : ∃ q : Nat, bits .and .i64 from_ 4095 = q ∧ q < 4096 := by rw [mask_4095]; exact mod_nat from_ 4096 (by omega)
  obtain ⟨tb, htb, htb1⟩ : ∃ q : Nat, bits .and .i64 to_ 4095 = q ∧ q < 4096 := by rw [mask_4095]; exact mod_nat to_ 4096 (by omega)
  have hi8 : (Tryz.prog.info? 36).map (·.size) = some (sessC (bs tk0) (xH q)).size := by kernel_rfl
  have hall8 : (sessC (bs tk0) (xH q)).all (·.oneCell') = true := by kernel_rfl
  go_enter Tryz.func4, Tryz.ntmps4
  go_wp2_with fail
  refine cW.out.mono ?_
  rintro e w0 ⟨rfl, hb0⟩
  have HB0 := Lib.hid hb0
  have cF := Lib.hid (Fresh_ok w0 200 (by omega) (by omega) (HE.out.below hb0))
  clear hb0
  dsimp only
  go_wp2_with fail
  refine cF.out.mono ?_
  rintro e w1 ⟨h, s, t, p, b, rfl, hst, hb1, hs, hb⟩
  have hss : Ss w1 s t p b [] := ⟨hst, SOk.nil⟩
  have HSS := Lib.hid hss; have HB1 := Lib.hid (HB0.out.trans (hb1.mono HB0.out.size)); have HB := Lib.hid (Nat.le_trans HB0.out.size hb)
  have hlb : b < w1.heap.size := hst.lb
  clear hst hss hb1 hs hb
  dsimp only
  go_wp2_with fail
  have hb2 : Below w1.heap.size w1 (w1.alloc (.cells (bcs dr0).toArray 5)) := (Below.refl _ _).alloc (Nat.le_refl _) _
  have bd2 := heap_alloc_new w1 (.cells (bcs dr0).toArray 5)
  generalize w1.alloc (.cells (bcs dr0).toArray 5) = W2 at *
  have cI := Issue_L W2 s t p b [] ⟨#[]⟩ (some ⟨w1.heap.size, 0, none⟩) 16 dr0 ⟨#[]⟩ ⟨#[97, 110, 110]⟩ 2 1125899906842624 q 0 0 0 (HSS.out.below hb2) (by simp) (rd_row bd2 rfl) (by decide) (by decide) (by decide) (by decide)
  rw [hoE hq1, hoS hq1, show dr0.length = 16 from rfl] at cI
  have HB2 := Lib.hid (HB1.out.trans (hb2.mono HB1.out.size))
  clear hb2 bd2
  refine cI.mono ?_
  rintro e w3 ⟨rfl, hs3, hk3⟩
  have cc73 := cookie_size [] tk0 tok0
  rw [show (⟨#[]⟩ : ByteArray).data.toList = [] from rfl]
  have HB3 := Lib.hid (below_kp HB2.out hk3 HB.out (Nat.le_refl _)); have HS3 := Lib.hid hs3
  clear hs3 hk3 cI
  dsimp only
  go_wp2_with fail
  refine (Find_L w3 s t p b [(tk0, xH q)] ⟨#[]⟩ (bs (cookieB [] tk0)) 0 HS3.out (by decide) (by rw [cc73]; decide)).mono ?_
  rintro e w5 ⟨rfl, hb5⟩
  rw [show findR [(tk0, xH q)] (⟨#[]⟩ : ByteArray).data.toList (bs (cookieB [] tk0)).data.toList 0 = (sessC (bs tk0) (xH q), 0) from findR_cookie _ _ _ _ _ tok0 (getL_one _ _) (by show (0 : Int) < ((1125899906842624 : Nat) : Int); decide)]
  have b5 := HB3.out.trans (hb5.mono HB3.out.size)
  have s5 := HS3.out.below hb5
  have hn5 := heap_alloc_new w5 (.cells zeroS 36)
  have hb6 : Below w5.heap.size w5 ((w5.alloc (.cells #[.string ⟨#[]⟩, .string ⟨#[]⟩, .int .i64 0, .int .i64 0, .int .i64 0, .int .i64 0, .int .i64 0, .int .i64 0] 36)).setRow w5.heap.size (sessC (bs tk0) (xH q))) := below_setRow ((Below.refl _ _).alloc (Nat.le_refl _) _) (Nat.le_refl _) _
  have hr6 : ((w5.alloc (.cells #[.string ⟨#[]⟩, .string ⟨#[]⟩, .int .i64 0, .int .i64 0, .int .i64 0, .int .i64 0, .int .i64 0, .int .i64 0] 36)).setRow w5.heap.size (sessC (bs tk0) (xH q))).heap[w5.heap.size]? = some (.cells (sessC (bs tk0) (xH q)) 36 (0, 0)) := setRow_heap _ _ _ _ _ _ hn5
  have hlb5 : b < w5.heap.size := s5.st.lb
  generalize hX6 : ((w5.alloc (.cells #[.string ⟨#[]⟩, .string ⟨#[]⟩, .int .i64 0, .int .i64 0, .int .i64 0, .int .i64 0, .int .i64 0, .int .i64 0] 36)).setRow w5.heap.size (sessC (bs tk0) (xH q))) = w6 at hb6 hr6
  have b6 := b5.trans (hb6.mono b5.size)
  have s6 := s5.below hb6
  have hlt6 : w5.heap.size < w6.heap.size := lt_of_heap hr6
  have HN5 := Lib.hid hn5; have HX6 := Lib.hid hX6; have HB6 := Lib.hid b6; have HS6 := Lib.hid s6; have HR6 := Lib.hid hr6
  clear hb5 b5 s5 hn5 hb6 hX6 b6 s6 hr6
  dsimp only
  go_wp2_with first | (refine wpList_store_row rfl 36 _ _ rfl w5.heap.size (sessC (bs tk0) (xH q)) rfl rfl 36 _ HN5.out hi8 rfl hall8 ?_; rw [HX6.out]) | fail
  have htz : (bs tk0).size ≤ 9223372036854775807 := by rw [bs_size, tok_len tk0 tok0]; decide
  go_loopw [19, 20, 21, 22] (fun vn vs vt vi wr => ∃ (k now spent : Nat) (ts : List Nat) (x : Sess), vi = .int .i64 k ∧ vn = .int .i64 now ∧ vs = .int .i64 spent ∧ HoR n1 n2 q w6 wr s t p b w6.heap.size k now spent ts x vt) (fun _ _ _ vi _ => 100 - (intOf vi).toNat)
  case atStart => exact ⟨0, 0, 0, [], xH q, rfl, rfl, rfl, by omega, by omega, by omega, by omega, by simp, Held.start q, rfl, Purse.start q, HS6.out, Kp.refl _ _, World.ownsRow_nil _ _ _ _⟩
  case round =>
    obtain ⟨k, now, spent, ts, x, rfl, rfl, rfl, hor⟩ := hrel
    obtain ⟨A5, c5, rfl⟩ := own_form3 hor.tm
    have hbw := below_kp HB6.out hor.kp HB.out (Nat.le_refl _)
    have hr := heap_kp0 HR6.out hor.kp (by omega)
    have hk100 := hor.k100; have hclk := hor.clock; have htl := hor.len
    have hspq : spent ≤ q := by
      have h1 := hor.fine.used
      rw [hor.used, hor.held.quota] at h1; exact h1
    have HOR := Lib.hid hor; have HBW := Lib.hid hbw
    have c0 : wr.cell? ⟨w5.heap.size, 0, none⟩ = some (.string (bs tk0)) := by rw [World.cell?]; simp only [hr]; rfl
    clear hor hbw hr
    by_cases h1 : k < n1
    · by_cases h2 : k < n2
      · by_cases h3 : k < 100
        · obtain ⟨ad1, z1, rfl, hz1⟩ := HA1.out k h1
          obtain ⟨ad2, z2, rfl, hz2⟩ := HA2.out k h2
          have hzr1 : wr.cell? (ad1.add k) = some (.int .i64 z1) := by
            rw [← hz1]; exact World.cell?_of_block (HBW.out.block _ (World.block_lt_of_cell? w _ hz1))
          have hzr2 : wr.cell? (ad2.add k) = some (.int .i64 z2) := by
            rw [← hz2]; exact World.cell?_of_block (HBW.out.block _ (World.block_lt_of_cell? w _ hz2))
          obtain ⟨d, hd, hd1⟩ : ∃ q : Nat, bits .and .i64 z1 255 = q ∧ q < 256 := by rw [mask_255]; exact mod_nat z1 256 (by omega)
          obtain ⟨cost, hcost, hcost1⟩ : ∃ q : Nat, bits .and .i64 z2 15 = q ∧ q < 16 := by rw [mask_15]; exact mod_nat z2 16 (by omega)
          obtain ⟨nn, hnn⟩ : ∃ nn : Nat, now + d = nn := ⟨_, rfl⟩
          have hsum : (now : Int) + (d : Int) = (nn : Int) := by omega
          have hnb : nn ≤ 25500 := by omega
          go_wp2_with fail
          obtain ⟨S, hSd⟩ : ∃ S : World → Prop, ∀ w', S w' ↔ (w'.cell? ⟨w5.heap.size, 0, none⟩ = some (.string (bs tk0)) ∧ w'.cell? (ad2.add k) = some (.int .i64 z2)) := ⟨_, fun _ => Iff.rfl⟩
          have hS : S wr.drew := (hSd _).2 ⟨c0, hzr2⟩
          have HSd := Lib.hid hSd
          clear hSd
          refine wp_region_I (by kernel_rfl) S 99 ?_
          refine wpAnyS_take 0 (v := ?_) rfl (by kernel_rfl) (by kernel_rfl) (by kernel_rfl) rfl (fun _ _ _ h => h) (.inl ⟨rfl, fun w' hS' => ?_⟩) hS ?_; rotate_left 1; focus (have hf := (HSd.out w').1 hS'; (repeat (obtain ⟨_, hf⟩ := hf)); go_simp; (try rfl))
          refine wpAnyS_take 1 (v := ?_) rfl (by kernel_rfl) (by kernel_rfl) (by kernel_rfl) rfl (fun _ _ _ h => h) (.inl ⟨rfl, fun w' hS' => ?_⟩) hS ?_; rotate_left 1; focus (have hf := (HSd.out w').1 hS'; (repeat (obtain ⟨_, hf⟩ := hf)); go_simp; (try rfl))
          refine wpAnyS_take 2 (v := ?_) rfl (by kernel_rfl) (by kernel_rfl) (by kernel_rfl) rfl (fun _ _ _ h => h) (.inl ⟨rfl, fun w' hS' => ?_⟩) hS ?_; rotate_left 1; focus (have hf := (HSd.out w').1 hS'; (repeat (obtain ⟨_, hf⟩ := hf)); go_simp; (try rfl))
          refine wpAnyS_take 3 (v := ?_) rfl (by kernel_rfl) (by kernel_rfl) (by kernel_rfl) rfl (fun _ _ _ h => h) (.inl ⟨rfl, fun w' hS' => ?_⟩) hS ?_; rotate_left 1; focus (have hf := (HSd.out w').1 hS'; (repeat (obtain ⟨_, hf⟩ := hf)); go_simp; (try rfl))
          refine wpAnyS_take 4 (v := ?_) rfl (by kernel_rfl) (by kernel_rfl) (by kernel_rfl) rfl (fun _ _ _ h => h) (.inl ⟨rfl, fun w' hS' => ?_⟩) hS ?_; rotate_left 1; focus (have hf := (HSd.out w').1 hS'; (repeat (obtain ⟨_, hf⟩ := hf)); go_simp; (try rfl))
          refine wpAnyS_take 5 (v := ?_) rfl (by kernel_rfl) (by kernel_rfl) (by kernel_rfl) rfl (fun _ _ _ h => h) (.inl ⟨rfl, fun w' hS' => ?_⟩) hS ?_; rotate_left 1; focus (have hf := (HSd.out w').1 hS'; (repeat (obtain ⟨_, hf⟩ := hf)); go_simp; (try rfl))
          refine wpAnyS_take 6 (v := ?_) rfl (by kernel_rfl) (by kernel_rfl) (by kernel_rfl) rfl (fun _ _ _ h => h) (.inl ⟨rfl, fun w' hS' => ?_⟩) hS ?_; rotate_left 1; focus (have hf := (HSd.out w').1 hS'; (repeat (obtain ⟨_, hf⟩ := hf)); go_simp; (try rfl))
          refine wpAnyS_take 7 (v := ?_) rfl (by kernel_rfl) (by kernel_rfl) (by kernel_rfl) rfl (fun _ _ _ h => h) (.inl ⟨rfl, fun w' hS' => ?_⟩) hS ?_; rotate_left 1; focus (have hf := (HSd.out w').1 hS'; (repeat (obtain ⟨_, hf⟩ := hf)); go_simp; (try rfl))
          refine wpAnyS_take 8 (v := ?_) rfl (by kernel_rfl) (by kernel_rfl) (by kernel_rfl) rfl (fun _ _ _ h => h) (.inl ⟨rfl, fun w' hS' => ?_⟩) hS ?_; rotate_left 1; focus (have hf := (HSd.out w').1 hS'; (repeat (obtain ⟨_, hf⟩ := hf)); go_simp; (try rfl))
          refine wpAnyI_one 9 (by kernel_rfl) (wpOp_step rfl (fun K hK => ?_)); go_simp
          have hsd := HOR.out.ss.below (Below.refl wr.heap.size wr).drew
          have cS := Spend_L wr.drew s t p b [(tk0, x)] (bs tk0) (nn : Int) (cost : Int) 1 hsd htz
          rw [bs_list, ho_spend HOR.out.held hnb] at cS
          have hcs := ho_cases HOR.out.held hnb hcost1
          have hst1 := fun h0 => ho_state HOR.out.held hnb h0 (c := cost)
          have hst2 := fun h0 => ho_stay HOR.out.held hnb h0 (c := cost)
          have hfacts := fun h0 => spend_facts (x := x) (now := (nn : Int)) (cost := (cost : Int)) (role := 1) HOR.out.fine h0
          generalize spendC x (nn : Int) (cost : Int) 1 = code at *
          by_cases h0 : code = 0
          · subst h0
            rw [hst1 rfl] at cS
            have hfc := hfacts rfl
            have hpu : Purse (x.spend nn cost) nn (ts ++ [nn]) := by
              have h := (HOR.out.purse.wait d).spend cost
              rw [hnn] at h
              exact h hfc.2.2.2.2.1
            have husd : (x.spend nn cost).used = spent + cost := by show x.used + cost = _; rw [HOR.out.used]
            have HPU := Lib.hid hpu; have HUS := Lib.hid husd
            clear hpu husd hfc hfacts hst1 hst2 hcs
            refine cS.mono ?_
            rintro e wn ⟨rfl, hsn, hkn2⟩
            have hkk := (Kp.of_below (Below.refl wr.heap.size wr).drew (· = b)).trans hkn2
            have hne2 : ad2.block ≠ b := by have h := World.block_lt_of_cell? w _ hz2; rw [Go.ChangeShapes.block_add] at h; have := HB.out; omega
            have hS2 : S wn := (HSd.out _).2 ⟨by rw [← c0]; exact World.cell?_of_block (hkn2.block _ (lt_of_cell c0) (show w5.heap.size ≠ b by omega)), by rw [← hzr2]; exact World.cell?_of_block (hkn2.block _ (World.block_lt_of_cell? wr _ hzr2) (by rw [Go.ChangeShapes.block_add]; exact hne2))⟩
            have zn2 := ((HSd.out _).1 hS2).2
            have ztn : ∀ o : Obj, (wn.alloc o).cell? (ad2.add k) = some (.int .i64 z2) := fun o => (World.cell?_alloc_lt _ _ _ (World.block_lt_of_cell? wn _ zn2)).trans zn2
            have otm := ownsRow_heap HOR.out.tm (fun z hz => hkk.block z (HOR.out.tm.lt z hz).2 (show z ≠ b by have := (HOR.out.tm.lt z hz).1; omega))
            have otm5 : (wn.alloc (.cells #[.int .i64 (nn : Int)] 3)).ownsRow w6.heap.size 3 1 (.slice A5 ts.length c5) ts.length (tsV ts) := ownsRow_below otm ((Below.refl _ _).alloc (Nat.le_refl _) _)
            have hsrc5 := src_row (T := 29) Tryz.underlying29 (heap_alloc_new wn (.cells #[.int .i64 (nn : Int)] 3)) (by kernel_rfl)
            have hk6 := HOR.out.kp.trans hkk
            have hsz6 := hk6.size
            have hbs5 : w6.heap.size ≤ (wn.alloc (.cells #[.int .i64 (nn : Int)] 3)).heap.size := by
              simp only [World.size_alloc]; omega
            obtain ⟨iq, hiq1, hiq2, hiq3, hiq4⟩ := info_int'
            have hs1 := HSS.out.st.ls; have hs2 := HSS.out.st.lt; have hw16 := HB6.out.size
            have OTM5 := Lib.hid otm5; have HSRC5 := Lib.hid hsrc5; have HBS5 := Lib.hid hbs5; have HSN := Lib.hid hsn; have HK6 := Lib.hid hk6
            clear hkn2 hkk hne2 otm otm5 hsrc5 hbs5 hsn hk6 cS hzr1 hzr2 hz1 hz2 c0
            obtain ⟨sp, hsp⟩ : ∃ sp : Nat, spent + cost = sp := ⟨_, rfl⟩
            have hspc : (spent : Int) + (cost : Int) = (sp : Int) := by omega
            have hspb : sp ≤ 2000 := by omega
            refine hK _ _ ⟨fun _ => hS2, ?_⟩
            clear hK K
            have hS := hS2
            refine wpAnyS_take 10 (v := ?_) rfl (by kernel_rfl) (by kernel_rfl) (by kernel_rfl) rfl (fun _ _ _ h => h) (.inl ⟨rfl, fun w' hS' => ?_⟩) hS ?_; rotate_left 1; focus (have hf := (HSd.out w').1 hS'; (repeat (obtain ⟨_, hf⟩ := hf)); go_simp; (try rfl))
            refine wpAnyI_done (by kernel_rfl) ?_ _
            clear hS hS2
            go_simp
            go_wp2_with first | (at_builtin; refine wpList_append_src _ rfl (.tmp 106) (.tmp 108) 29 29 rfl w6.heap.size 3 iq (.int .i64 0) 1 8 Tryz.underlying29 hiq1 hiq2 hiq3 hiq4 rfl _ _ ts.length (tsV ts) rfl rfl OTM5.out 1 _ HSRC5.out ?_ ?_ HBS5.out ?_) | fail
            · unfold maxLen; omega
            · omega
            intro v5 w8 ow5 hg5
            have hb5 : Below w6.heap.size wn w8 := ((Below.refl _ _).alloc hsz6 _).grown hg5 HBS5.out (fun k hk => (OTM5.out.lt k hk).1)
            have hnew : HoR n1 n2 q w6 w8 s t p b w6.heap.size (k + 1) nn sp (ts ++ [nn]) (x.spend nn cost) v5 :=
              ⟨by omega, by omega, by omega, by omega, by simp; omega, HOR.out.held.spend nn cost, HUS.out.trans hsp, HPU.out, ss_above HSN.out hb5 HS6.out.st.ls HS6.out.st.lt HS6.out.st.lb, kp_above HK6.out hb5 (Nat.le_refl _), by rw [tsV_snoc, List.length_append]; exact ow5⟩
            have HNEW := Lib.hid hnew
            clear hnew ow5 hg5 hb5 hiq1 hiq2 hiq3 hiq4 zn2 ztn
            go_wp2
            go_roundw
            case rel => first | exact ⟨k + 1, nn, sp, ts ++ [nn], x.spend nn cost, rfl, rfl, rfl, HNEW.out⟩ | ((repeat apply Exists.intro); exact ⟨⟨k + 1, nn, sp, ts ++ [nn], x.spend nn cost, rfl, rfl, rfl, HNEW.out⟩, rfl⟩)
            case measure => simp [intOf]; omega
          · have hc2 : code = 193 ∨ code = 194 := by omega
            rw [hst2 h0] at cS
            clear hfacts hst1 hst2 hcs
            refine cS.mono ?_
            rintro e wn ⟨rfl, hsn, hkn2⟩
            have hkk := (Kp.of_below (Below.refl wr.heap.size wr).drew (· = b)).trans hkn2
            have hne2 : ad2.block ≠ b := by have h := World.block_lt_of_cell? w _ hz2; rw [Go.ChangeShapes.block_add] at h; have := HB.out; omega
            have hS2 : S wn := (HSd.out _).2 ⟨by rw [← c0]; exact World.cell?_of_block (hkn2.block _ (lt_of_cell c0) (show w5.heap.size ≠ b by omega)), by rw [← hzr2]; exact World.cell?_of_block (hkn2.block _ (World.block_lt_of_cell? wr _ hzr2) (by rw [Go.ChangeShapes.block_add]; exact hne2))⟩
            have otm := ownsRow_heap HOR.out.tm (fun z hz => hkk.block z (HOR.out.tm.lt z hz).2 (show z ≠ b by have := (HOR.out.tm.lt z hz).1; have := HS6.out.st.lb; omega))
            have hpu : Purse x nn ts := by
              have h := HOR.out.purse.wait d
              rw [hnn] at h
              exact h
            have hnew : HoR n1 n2 q w6 wn s t p b w6.heap.size (k + 1) nn spent ts x (.slice A5 ts.length c5) :=
              ⟨by omega, by omega, by omega, by omega, by omega, HOR.out.held, HOR.out.used, hpu, hsn, HOR.out.kp.trans hkk, otm⟩
            have HNEW := Lib.hid hnew
            clear hnew otm hpu hsn hkn2 hkk hne2 cS hzr1 hzr2 hz1 hz2 c0
            refine hK _ _ ⟨fun _ => hS2, ?_⟩
            clear hK K
            have hS := hS2
            refine wpAnyS_take 10 (v := ?_) rfl (by kernel_rfl) (by kernel_rfl) (by kernel_rfl) rfl (fun _ _ _ h => h) (.inl ⟨rfl, fun w' hS' => ?_⟩) hS ?_; rotate_left 1; focus (have hf := (HSd.out w').1 hS'; (repeat (obtain ⟨_, hf⟩ := hf)); go_simp; (try rfl))
            refine wpAnyI_done (by kernel_rfl) ?_ _
            clear hS hS2 h0
            rcases hc2 with rfl | rfl
            · go_simp
              go_wp2
              go_roundw
              case rel => first | exact ⟨k + 1, nn, spent, ts, x, rfl, rfl, rfl, HNEW.out⟩ | ((repeat apply Exists.intro); exact ⟨⟨k + 1, nn, spent, ts, x, rfl, rfl, rfl, HNEW.out⟩, rfl⟩)
              case measure => simp [intOf]; omega
            · go_simp
              go_wp2
              go_roundw
              case rel => first | exact ⟨k + 1, nn, spent, ts, x, rfl, rfl, rfl, HNEW.out⟩ | ((repeat apply Exists.intro); exact ⟨⟨k + 1, nn, spent, ts, x, rfl, rfl, rfl, HNEW.out⟩, rfl⟩)
              case measure => simp [intOf]; omega
        · skip
          obtain ⟨wo, rfl⟩ : ∃ wo : World, wo = wr := ⟨_, rfl⟩
          have hmx : (now : Int) < ((x.ends : Nat) : Int) := by rw [HOR.out.held.ends]; omega
          have HMX := Lib.hid hmx
          clear c0 hmx
          go_wp2_with fail
          refine (Find_L wo s t p b [(tk0, x)] ⟨#[]⟩ (bs (cookieB [] tk0)) now HOR.out.ss (by decide) (by rw [cc73]; decide)).mono ?_
          rintro e wf ⟨rfl, hbf⟩
          rw [show findR [(tk0, x)] (⟨#[]⟩ : ByteArray).data.toList (bs (cookieB [] tk0)).data.toList now = (sessC (bs tk0) x, 0) from findR_cookie _ _ _ _ _ tok0 (getL_one _ _) HMX.out]
          have bf := HBW.out.trans (hbf.mono HBW.out.size)
          have hnf := heap_alloc_new wf (.cells zeroS 36)
          have hbg : Below wf.heap.size wf ((wf.alloc (.cells #[.string ⟨#[]⟩, .string ⟨#[]⟩, .int .i64 0, .int .i64 0, .int .i64 0, .int .i64 0, .int .i64 0, .int .i64 0] 36)).setRow wf.heap.size (sessC (bs tk0) x)) := below_setRow ((Below.refl _ _).alloc (Nat.le_refl _) _) (Nat.le_refl _) _
          have hqg : ((wf.alloc (.cells #[.string ⟨#[]⟩, .string ⟨#[]⟩, .int .i64 0, .int .i64 0, .int .i64 0, .int .i64 0, .int .i64 0, .int .i64 0] 36)).setRow wf.heap.size (sessC (bs tk0) x)).heap[wf.heap.size]? = some (.cells (sessC (bs tk0) x) 36 (0, 0)) := setRow_heap _ _ _ _ _ _ hnf
          generalize hXg : ((wf.alloc (.cells #[.string ⟨#[]⟩, .string ⟨#[]⟩, .int .i64 0, .int .i64 0, .int .i64 0, .int .i64 0, .int .i64 0, .int .i64 0] 36)).setRow wf.heap.size (sessC (bs tk0) x)) = wg at hbg hqg
          have hb' := bf.trans (hbg.mono bf.size)
          have htg := ownsRow_below (ownsRow_below HOR.out.tm hbf) hbg
          have c5x : wg.cell? ⟨wf.heap.size, 5, none⟩ = some (.int .i64 (spent : Int)) := by rw [World.cell?]; simp only [hqg]; show some (Value.int .i64 (x.used : Int)) = _; rw [HOR.out.used]
          have hiC : (Tryz.prog.info? 36).map (·.size) = some (sessC (bs tk0) x).size := by kernel_rfl
          have hallC : (sessC (bs tk0) x).all (·.oneCell') = true := by kernel_rfl
          have HNF := Lib.hid hnf; have HXG := Lib.hid hXg; have HBG := Lib.hid hb'; have HTG := Lib.hid htg
          clear hbf bf hnf hbg hXg hb' hqg htg
          obtain ⟨bb, hbb⟩ : ∃ bb : Nat, fa + tb = bb := ⟨_, rfl⟩
          have hsum2 : (fa : Int) + (tb : Int) = (bb : Int) := by omega
          have hbb1 : bb ≤ 8190 := by omega
          dsimp only
          go_wp2_with first | (refine wpList_store_row rfl 36 _ _ rfl wf.heap.size (sessC (bs tk0) x) rfl rfl 36 _ HNF.out hiC rfl hallC ?_; rw [HXG.out]) | fail
          go_loopw [28, 29] (fun vn vi wQ => ∃ m : Nat, m ≤ ts.length ∧ vn = .int .i64 (cntN (ts.take m) fa bb : Nat) ∧ vi = .int .i64 m ∧ wQ = wg) (fun _ vi _ => 100 - (intOf vi).toNat)
          case atStart => exact ⟨0, Nat.zero_le _, rfl, rfl, rfl⟩
          case round =>
            obtain ⟨m, hmE, rfl, rfl, rfl⟩ := hrel
            by_cases hm : m < ts.length
            · obtain ⟨gt, hgt⟩ : ∃ gt, A5 = some ⟨gt, 0, none⟩ := by
                rcases HTG.out.2 with ⟨_, h0⟩ | ⟨g, cap, cur, h0, _⟩
                · omega
                · injection h0 with hA; exact ⟨g, hA⟩
              subst hgt
              have ct : wr.cell? ⟨gt, m, none⟩ = some (.int .i64 (ts[m] : Int)) := by
                rw [HTG.out.cellAt m (by omega)]; unfold tsV; rw [List.getElem?_map, List.getElem?_eq_getElem hm]; rfl
              have hcn := cnt_take ts fa bb m hm
              have hcl := cnt_le (ts.take m) fa bb
              rw [List.length_take] at hcl
              obtain ⟨cn, hcn0⟩ : ∃ cn : Nat, cntN (ts.take m) fa bb = cn := ⟨_, rfl⟩
              have hcl2 : cn ≤ 100 := by omega
              generalize ts[m] = tm at *
              rw [hcn0] at hcn ⊢
              have HCN := Lib.hid hcn
              clear hcn hcl hcn0
              by_cases ha : fa ≤ tm
              · by_cases hb2 : tm ≤ bb
                · go_wp2
                  go_roundw
                  case rel => first | exact ⟨m + 1, by omega, by rw [HCN.out, if_pos ⟨ha, hb2⟩]; rfl, rfl, trivial⟩ | ((repeat apply Exists.intro); exact ⟨⟨m + 1, by omega, by rw [HCN.out, if_pos ⟨ha, hb2⟩]; rfl, rfl, trivial⟩, rfl⟩)
                  case measure => simp [intOf]; omega
                · go_wp2
                  go_roundw
                  case rel => first | exact ⟨m + 1, by omega, by rw [HCN.out, if_neg (fun h => hb2 h.2)]; rfl, rfl, trivial⟩ | ((repeat apply Exists.intro); exact ⟨⟨m + 1, by omega, by rw [HCN.out, if_neg (fun h => hb2 h.2)]; rfl, rfl, trivial⟩, rfl⟩)
                  case measure => simp [intOf]; omega
              · go_wp2
                go_roundw
                case rel => first | exact ⟨m + 1, by omega, by rw [HCN.out, if_neg (fun h => ha h.1)]; rfl, rfl, trivial⟩ | ((repeat apply Exists.intro); exact ⟨⟨m + 1, by omega, by rw [HCN.out, if_neg (fun h => ha h.1)]; rfl, rfl, trivial⟩, rfl⟩)
                case measure => simp [intOf]; omega
            · obtain rfl : m = ts.length := by omega
              rw [List.take_length]
              have hend := HOR.out.purse.end_ fa bb (by omega)
              have hcl := cnt_le ts fa bb
              obtain ⟨cn, hcn0⟩ : ∃ cn : Nat, cntN ts fa bb = cn := ⟨_, rfl⟩
              rw [hcn0] at hend hcl ⊢
              have hsub : (bb : Int) - (fa : Int) = (tb : Int) := by omega
              have hbf : bb - fa = tb := by omega
              rw [hbf] at hend
              have hend2 : (cn : Int) ≤ 20 + (tb : Int) / 100 + 1 := by omega
              clear hcn0 hbf
              go_wp2_with fail
              go_ret
              exact ⟨rfl, HBG.out⟩
      · skip
        obtain ⟨wo, rfl⟩ : ∃ wo : World, wo = wr := ⟨_, rfl⟩
        have hmx : (now : Int) < ((x.ends : Nat) : Int) := by rw [HOR.out.held.ends]; omega
        have HMX := Lib.hid hmx
        clear c0 hmx
        go_wp2_with fail
        refine (Find_L wo s t p b [(tk0, x)] ⟨#[]⟩ (bs (cookieB [] tk0)) now HOR.out.ss (by decide) (by rw [cc73]; decide)).mono ?_
        rintro e wf ⟨rfl, hbf⟩
        rw [show findR [(tk0, x)] (⟨#[]⟩ : ByteArray).data.toList (bs (cookieB [] tk0)).data.toList now = (sessC (bs tk0) x, 0) from findR_cookie _ _ _ _ _ tok0 (getL_one _ _) HMX.out]
        have bf := HBW.out.trans (hbf.mono HBW.out.size)
        have hnf := heap_alloc_new wf (.cells zeroS 36)
        have hbg : Below wf.heap.size wf ((wf.alloc (.cells #[.string ⟨#[]⟩, .string ⟨#[]⟩, .int .i64 0, .int .i64 0, .int .i64 0, .int .i64 0, .int .i64 0, .int .i64 0] 36)).setRow wf.heap.size (sessC (bs tk0) x)) := below_setRow ((Below.refl _ _).alloc (Nat.le_refl _) _) (Nat.le_refl _) _
        have hqg : ((wf.alloc (.cells #[.string ⟨#[]⟩, .string ⟨#[]⟩, .int .i64 0, .int .i64 0, .int .i64 0, .int .i64 0, .int .i64 0, .int .i64 0] 36)).setRow wf.heap.size (sessC (bs tk0) x)).heap[wf.heap.size]? = some (.cells (sessC (bs tk0) x) 36 (0, 0)) := setRow_heap _ _ _ _ _ _ hnf
        generalize hXg : ((wf.alloc (.cells #[.string ⟨#[]⟩, .string ⟨#[]⟩, .int .i64 0, .int .i64 0, .int .i64 0, .int .i64 0, .int .i64 0, .int .i64 0] 36)).setRow wf.heap.size (sessC (bs tk0) x)) = wg at hbg hqg
        have hb' := bf.trans (hbg.mono bf.size)
        have htg := ownsRow_below (ownsRow_below HOR.out.tm hbf) hbg
        have c5x : wg.cell? ⟨wf.heap.size, 5, none⟩ = some (.int .i64 (spent : Int)) := by rw [World.cell?]; simp only [hqg]; show some (Value.int .i64 (x.used : Int)) = _; rw [HOR.out.used]
        have hiC : (Tryz.prog.info? 36).map (·.size) = some (sessC (bs tk0) x).size := by kernel_rfl
        have hallC : (sessC (bs tk0) x).all (·.oneCell') = true := by kernel_rfl
        have HNF := Lib.hid hnf; have HXG := Lib.hid hXg; have HBG := Lib.hid hb'; have HTG := Lib.hid htg
        clear hbf bf hnf hbg hXg hb' hqg htg
        obtain ⟨bb, hbb⟩ : ∃ bb : Nat, fa + tb = bb := ⟨_, rfl⟩
        have hsum2 : (fa : Int) + (tb : Int) = (bb : Int) := by omega
        have hbb1 : bb ≤ 8190 := by omega
        dsimp only
        go_wp2_with first | (refine wpList_store_row rfl 36 _ _ rfl wf.heap.size (sessC (bs tk0) x) rfl rfl 36 _ HNF.out hiC rfl hallC ?_; rw [HXG.out]) | fail
        go_loopw [28, 29] (fun vn vi wQ => ∃ m : Nat, m ≤ ts.length ∧ vn = .int .i64 (cntN (ts.take m) fa bb : Nat) ∧ vi = .int .i64 m ∧ wQ = wg) (fun _ vi _ => 100 - (intOf vi).toNat)
        case atStart => exact ⟨0, Nat.zero_le _, rfl, rfl, rfl⟩
        case round =>
          obtain ⟨m, hmE, rfl, rfl, rfl⟩ := hrel
          by_cases hm : m < ts.length
          · obtain ⟨gt, hgt⟩ : ∃ gt, A5 = some ⟨gt, 0, none⟩ := by
              rcases HTG.out.2 with ⟨_, h0⟩ | ⟨g, cap, cur, h0, _⟩
              · omega
              · injection h0 with hA; exact ⟨g, hA⟩
            subst hgt
            have ct : wr.cell? ⟨gt, m, none⟩ = some (.int .i64 (ts[m] : Int)) := by
              rw [HTG.out.cellAt m (by omega)]; unfold tsV; rw [List.getElem?_map, List.getElem?_eq_getElem hm]; rfl
            have hcn := cnt_take ts fa bb m hm
            have hcl := cnt_le (ts.take m) fa bb
            rw [List.length_take] at hcl
            obtain ⟨cn, hcn0⟩ : ∃ cn : Nat, cntN (ts.take m) fa bb = cn := ⟨_, rfl⟩
            have hcl2 : cn ≤ 100 := by omega
            generalize ts[m] = tm at *
            rw [hcn0] at hcn ⊢
            have HCN := Lib.hid hcn
            clear hcn hcl hcn0
            by_cases ha : fa ≤ tm
            · by_cases hb2 : tm ≤ bb
              · go_wp2
                go_roundw
                case rel => first | exact ⟨m + 1, by omega, by rw [HCN.out, if_pos ⟨ha, hb2⟩]; rfl, rfl, trivial⟩ | ((repeat apply Exists.intro); exact ⟨⟨m + 1, by omega, by rw [HCN.out, if_pos ⟨ha, hb2⟩]; rfl, rfl, trivial⟩, rfl⟩)
                case measure => simp [intOf]; omega
              · go_wp2
                go_roundw
                case rel => first | exact ⟨m + 1, by omega, by rw [HCN.out, if_neg (fun h => hb2 h.2)]; rfl, rfl, trivial⟩ | ((repeat apply Exists.intro); exact ⟨⟨m + 1, by omega, by rw [HCN.out, if_neg (fun h => hb2 h.2)]; rfl, rfl, trivial⟩, rfl⟩)
                case measure => simp [intOf]; omega
            · go_wp2
              go_roundw
              case rel => first | exact ⟨m + 1, by omega, by rw [HCN.out, if_neg (fun h => ha h.1)]; rfl, rfl, trivial⟩ | ((repeat apply Exists.intro); exact ⟨⟨m + 1, by omega, by rw [HCN.out, if_neg (fun h => ha h.1)]; rfl, rfl, trivial⟩, rfl⟩)
              case measure => simp [intOf]; omega
          · obtain rfl : m = ts.length := by omega
            rw [List.take_length]
            have hend := HOR.out.purse.end_ fa bb (by omega)
            have hcl := cnt_le ts fa bb
            obtain ⟨cn, hcn0⟩ : ∃ cn : Nat, cntN ts fa bb = cn := ⟨_, rfl⟩
            rw [hcn0] at hend hcl ⊢
            have hsub : (bb : Int) - (fa : Int) = (tb : Int) := by omega
            have hbf : bb - fa = tb := by omega
            rw [hbf] at hend
            have hend2 : (cn : Int) ≤ 20 + (tb : Int) / 100 + 1 := by omega
            clear hcn0 hbf
            go_wp2_with fail
            go_ret
            exact ⟨rfl, HBG.out⟩
    · skip
      obtain ⟨wo, rfl⟩ : ∃ wo : World, wo = wr := ⟨_, rfl⟩
      have hmx : (now : Int) < ((x.ends : Nat) : Int) := by rw [HOR.out.held.ends]; omega
      have HMX := Lib.hid hmx
      clear c0 hmx
      go_wp2_with fail
      refine (Find_L wo s t p b [(tk0, x)] ⟨#[]⟩ (bs (cookieB [] tk0)) now HOR.out.ss (by decide) (by rw [cc73]; decide)).mono ?_
      rintro e wf ⟨rfl, hbf⟩
      rw [show findR [(tk0, x)] (⟨#[]⟩ : ByteArray).data.toList (bs (cookieB [] tk0)).data.toList now = (sessC (bs tk0) x, 0) from findR_cookie _ _ _ _ _ tok0 (getL_one _ _) HMX.out]
      have bf := HBW.out.trans (hbf.mono HBW.out.size)
      have hnf := heap_alloc_new wf (.cells zeroS 36)
      have hbg : Below wf.heap.size wf ((wf.alloc (.cells #[.string ⟨#[]⟩, .string ⟨#[]⟩, .int .i64 0, .int .i64 0, .int .i64 0, .int .i64 0, .int .i64 0, .int .i64 0] 36)).setRow wf.heap.size (sessC (bs tk0) x)) := below_setRow ((Below.refl _ _).alloc (Nat.le_refl _) _) (Nat.le_refl _) _
      have hqg : ((wf.alloc (.cells #[.string ⟨#[]⟩, .string ⟨#[]⟩, .int .i64 0, .int .i64 0, .int .i64 0, .int .i64 0, .int .i64 0, .int .i64 0] 36)).setRow wf.heap.size (sessC (bs tk0) x)).heap[wf.heap.size]? = some (.cells (sessC (bs tk0) x) 36 (0, 0)) := setRow_heap _ _ _ _ _ _ hnf
      generalize hXg : ((wf.alloc (.cells #[.string ⟨#[]⟩, .string ⟨#[]⟩, .int .i64 0, .int .i64 0, .int .i64 0, .int .i64 0, .int .i64 0, .int .i64 0] 36)).setRow wf.heap.size (sessC (bs tk0) x)) = wg at hbg hqg
      have hb' := bf.trans (hbg.mono bf.size)
      have htg := ownsRow_below (ownsRow_below HOR.out.tm hbf) hbg
      have c5x : wg.cell? ⟨wf.heap.size, 5, none⟩ = some (.int .i64 (spent : Int)) := by rw [World.cell?]; simp only [hqg]; show some (Value.int .i64 (x.used : Int)) = _; rw [HOR.out.used]
      have hiC : (Tryz.prog.info? 36).map (·.size) = some (sessC (bs tk0) x).size := by kernel_rfl
      have hallC : (sessC (bs tk0) x).all (·.oneCell') = true := by kernel_rfl
      have HNF := Lib.hid hnf; have HXG := Lib.hid hXg; have HBG := Lib.hid hb'; have HTG := Lib.hid htg
      clear hbf bf hnf hbg hXg hb' hqg htg
      obtain ⟨bb, hbb⟩ : ∃ bb : Nat, fa + tb = bb := ⟨_, rfl⟩
      have hsum2 : (fa : Int) + (tb : Int) = (bb : Int) := by omega
      have hbb1 : bb ≤ 8190 := by omega
      dsimp only
      go_wp2_with first | (refine wpList_store_row rfl 36 _ _ rfl wf.heap.size (sessC (bs tk0) x) rfl rfl 36 _ HNF.out hiC rfl hallC ?_; rw [HXG.out]) | fail
      go_loopw [28, 29] (fun vn vi wQ => ∃ m : Nat, m ≤ ts.length ∧ vn = .int .i64 (cntN (ts.take m) fa bb : Nat) ∧ vi = .int .i64 m ∧ wQ = wg) (fun _ vi _ => 100 - (intOf vi).toNat)
      case atStart => exact ⟨0, Nat.zero_le _, rfl, rfl, rfl⟩
      case round =>
        obtain ⟨m, hmE, rfl, rfl, rfl⟩ := hrel
        by_cases hm : m < ts.length
        · obtain ⟨gt, hgt⟩ : ∃ gt, A5 = some ⟨gt, 0, none⟩ := by
            rcases HTG.out.2 with ⟨_, h0⟩ | ⟨g, cap, cur, h0, _⟩
            · omega
            · injection h0 with hA; exact ⟨g, hA⟩
          subst hgt
          have ct : wr.cell? ⟨gt, m, none⟩ = some (.int .i64 (ts[m] : Int)) := by
            rw [HTG.out.cellAt m (by omega)]; unfold tsV; rw [List.getElem?_map, List.getElem?_eq_getElem hm]; rfl
          have hcn := cnt_take ts fa bb m hm
          have hcl := cnt_le (ts.take m) fa bb
          rw [List.length_take] at hcl
          obtain ⟨cn, hcn0⟩ : ∃ cn : Nat, cntN (ts.take m) fa bb = cn := ⟨_, rfl⟩
          have hcl2 : cn ≤ 100 := by omega
          generalize ts[m] = tm at *
          rw [hcn0] at hcn ⊢
          have HCN := Lib.hid hcn
          clear hcn hcl hcn0
          by_cases ha : fa ≤ tm
          · by_cases hb2 : tm ≤ bb
            · go_wp2
              go_roundw
              case rel => first | exact ⟨m + 1, by omega, by rw [HCN.out, if_pos ⟨ha, hb2⟩]; rfl, rfl, trivial⟩ | ((repeat apply Exists.intro); exact ⟨⟨m + 1, by omega, by rw [HCN.out, if_pos ⟨ha, hb2⟩]; rfl, rfl, trivial⟩, rfl⟩)
              case measure => simp [intOf]; omega
            · go_wp2
              go_roundw
              case rel => first | exact ⟨m + 1, by omega, by rw [HCN.out, if_neg (fun h => hb2 h.2)]; rfl, rfl, trivial⟩ | ((repeat apply Exists.intro); exact ⟨⟨m + 1, by omega, by rw [HCN.out, if_neg (fun h => hb2 h.2)]; rfl, rfl, trivial⟩, rfl⟩)
              case measure => simp [intOf]; omega
          · go_wp2
            go_roundw
            case rel => first | exact ⟨m + 1, by omega, by rw [HCN.out, if_neg (fun h => ha h.1)]; rfl, rfl, trivial⟩ | ((repeat apply Exists.intro); exact ⟨⟨m + 1, by omega, by rw [HCN.out, if_neg (fun h => ha h.1)]; rfl, rfl, trivial⟩, rfl⟩)
            case measure => simp [intOf]; omega
        · obtain rfl : m = ts.length := by omega
          rw [List.take_length]
          have hend := HOR.out.purse.end_ fa bb (by omega)
          have hcl := cnt_le ts fa bb
          obtain ⟨cn, hcn0⟩ : ∃ cn : Nat, cntN ts fa bb = cn := ⟨_, rfl⟩
          rw [hcn0] at hend hcl ⊢
          have hsub : (bb : Int) - (fa : Int) = (tb : Int) := by omega
          have hbf : bb - fa = tb := by omega
          rw [hbf] at hend
          have hend2 : (cn : Int) ≤ 20 + (tb : Int) / 100 + 1 := by omega
          clear hcn0 hbf
          go_wp2_with fail
          go_ret
          exact ⟨rfl, HBG.out⟩
end Go.Proofs.YtmbfenkmabdokaaGreatDoor
