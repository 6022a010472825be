/- Parts of the proof: Plain. -/
import Derived.Test.YtmbfenkmabdokaaGreatDoorR16
set_option linter.all false
namespace Go.Proofs.YtmbfenkmabdokaaGreatDoor
open Go.RowKit Go.Mp

/-- the sessions, as a list -/
abbrev SL := List (Bytes × Sess)
def kvOf (L : SL) : KV := L.map fun p => (bs (placeB p.1), bs p.2.enc)
def getL (L : SL) (t : Bytes) : Option Sess := (L.find? fun p => decide (t = p.1)).map (·.2)
def putL (L : SL) (t : Bytes) (x : Sess) : SL := if (L.find? fun p => decide (t = p.1)).isSome then L.map (fun p => if t = p.1 then (p.1, x) else p) else L ++ [(t, x)]
def delL (L : SL) (t : Bytes) : SL := L.filter fun p => !decide (t = p.1)
theorem place_inj {a b : Bytes} (h : placeB a = placeB b) : a = b := by
  simp [placeB, keyT, partB, sessW] at h
  exact h
theorem pkey (a b : Bytes) : decide (bs (placeB a) = bs (placeB b)) = decide (a = b) := by
  by_cases h : a = b
  · subst h; simp
  · rw [decide_eq_false h, decide_eq_false (fun e => h (place_inj (bs_inj.1 e)))]
theorem find_kv (L : SL) (t : Bytes) : (kvOf L).find? (fun p => decide (bs (placeB t) = p.1)) = (L.find? fun p => decide (t = p.1)).map fun p => (bs (placeB p.1), bs p.2.enc) := by
  unfold kvOf
  rw [List.find?_map]
  congr 1
  apply congrArg (fun f => List.find? f L)
  funext p
  exact pkey t p.1
theorem get_kv (L : SL) (t : Bytes) : getM (kvOf L) (bs (placeB t)) = (getL L t).map fun x => bs x.enc := by
  unfold getM getL; rw [find_kv]; simp [Function.comp_def]
theorem put_kv (L : SL) (t : Bytes) (x : Sess) : putM (kvOf L) (bs (placeB t)) (bs x.enc) = kvOf (putL L t x) := by
  unfold putM putL; rw [find_kv]
  by_cases h : (L.find? fun p => decide (t = p.1)).isSome = true
  · rw [if_pos (by simpa using h), if_pos h]
    simp only [kvOf, List.map_map]
    apply List.map_congr_left
    intro p _
    by_cases e : t = p.1
    · subst e; simp
    · have : ¬ (bs (placeB t) = bs (placeB p.1)) := fun e2 => e (place_inj (bs_inj.1 e2))
      simp only [Function.comp_apply]
      rw [if_neg this, if_neg e]
  · rw [if_neg (by simpa using h), if_neg h]
    simp [kvOf]
theorem del_kv (L : SL) (t : Bytes) : delM (kvOf L) (bs (placeB t)) = kvOf (delL L t) := by
  unfold delM delL kvOf; rw [List.filter_map]
  congr 1
  apply congrArg (fun f => List.filter f L)
  funext p
  simp only [Function.comp_apply]
  rw [pkey]
/-- the tokens are tokens and no two are one -/
structure SOk (F : Sess → Prop) (L : SL) : Prop where
  tok : ∀ p ∈ L, isTok p.1 = true ∧ F p.2
  one : (L.map (·.1)).Nodup
theorem SOk.nil {F : Sess → Prop} : SOk F [] := ⟨by simp, List.nodup_nil⟩
theorem none_of {α : Type} {o : Option α} (h : ¬ o.isSome = true) : o = none := by
  cases o with
  | none => rfl
  | some _ => exact absurd rfl h
theorem find_none {L : SL} {t : Bytes} (h : getL L t = none) : L.find? (fun p => decide (t = p.1)) = none := by
  unfold getL at h
  cases hf : L.find? (fun p => decide (t = p.1)) with
  | none => rfl
  | some p => rw [hf] at h; cases h
theorem getL_mem {L : SL} {t : Bytes} {x : Sess} (h : getL L t = some x) : (t, x) ∈ L := by
  unfold getL at h
  cases hf : L.find? (fun p => decide (t = p.1)) with
  | none => rw [hf] at h; cases h
  | some p =>
    rw [hf] at h
    have h1 := List.find?_some hf
    have h2 := List.mem_of_find?_eq_some hf
    simp at h h1
    subst h; subst h1; exact h2
theorem getL_none {L : SL} {t : Bytes} (h : getL L t = none) : ∀ p ∈ L, t ≠ p.1 := by
  unfold getL at h
  simp only [Option.map_eq_none_iff, List.find?_eq_none] at h
  intro p hp
  simpa using h p hp
theorem getL_of_mem {L : SL} (ho : (L.map (·.1)).Nodup) {p : Bytes × Sess} (h : p ∈ L) : getL L p.1 = some p.2 := by
  induction L with
  | nil => cases h
  | cons q L ih =>
    rw [List.map_cons, List.nodup_cons] at ho
    unfold getL; rw [List.find?_cons]
    rcases List.mem_cons.1 h with rfl | h
    · simp
    · have hne : p.1 ≠ q.1 := fun e => ho.1 (e ▸ List.mem_map_of_mem h)
      rw [decide_eq_false hne]
      exact ih ho.2 h
theorem getL_put (L : SL) (t u : Bytes) (x : Sess) : getL (putL L t x) u = if u = t then some x else getL L u := by
  unfold putL
  by_cases h : (L.find? fun p => decide (t = p.1)).isSome = true
  · rw [if_pos h]
    induction L with
    | nil => cases h
    | cons q L ih =>
      unfold getL
      rw [List.map_cons, List.find?_cons, List.find?_cons]
      by_cases e : t = q.1
      · rw [if_pos e]
        by_cases e2 : u = t
        · subst e2; simp [e]
        · have e3 : u ≠ q.1 := fun e4 => e2 (e4.trans e.symm)
          rw [if_neg e2]
          simp only [decide_eq_false e3]
          have hcl : ∀ L : SL, (L.map fun p => if t = p.1 then (p.1, x) else p).find? (fun p => decide (u = p.1)) = L.find? fun p => decide (u = p.1) := by
            intro L
            induction L with
            | nil => rfl
            | cons r L ih2 =>
              rw [List.map_cons, List.find?_cons, List.find?_cons]
              by_cases e5 : t = r.1
              · rw [if_pos e5]
                have e6 : u ≠ r.1 := fun e7 => e2 (e7.trans e5.symm)
                simp only [decide_eq_false e6]
                exact ih2
              · rw [if_neg e5]
                cases decide (u = r.1)
                · exact ih2
                · rfl
          rw [hcl]
      · rw [List.find?_cons, decide_eq_false e] at h
        have := ih h
        unfold getL at this
        rw [if_neg e]
        by_cases e2 : u = q.1
        · have : u ≠ t := fun e3 => e (e3.symm.trans e2)
          rw [if_neg this, decide_eq_true e2]
        · rw [decide_eq_false e2]; exact this
  · rw [if_neg h]
    unfold getL
    rw [List.find?_append]
    have hn := none_of h
    by_cases e : u = t
    · subst e; rw [hn, if_pos rfl]; simp
    · rw [if_neg e]
      cases hf : L.find? (fun p => decide (u = p.1)) with
      | some p => rfl
      | none => simp [decide_eq_false e]
theorem keys_put (L : SL) (t : Bytes) (x : Sess) : (putL L t x).map (·.1) = if (L.find? fun p => decide (t = p.1)).isSome then L.map (·.1) else L.map (·.1) ++ [t] := by
  unfold putL
  by_cases h : (L.find? fun p => decide (t = p.1)).isSome = true
  · rw [if_pos h, if_pos h, List.map_map]
    apply List.map_congr_left
    intro p _
    simp only [Function.comp_apply]
    split <;> rfl
  · rw [if_neg h, if_neg h]; simp
theorem SOk.put {F : Sess → Prop} {L : SL} (h : SOk F L) {t : Bytes} {x : Sess} (ht : isTok t = true) (hx : F x) : SOk F (putL L t x) := by
  refine ⟨fun p hp => ?_, ?_⟩
  · unfold putL at hp
    by_cases hf : (L.find? fun p => decide (t = p.1)).isSome = true
    · rw [if_pos hf] at hp
      obtain ⟨q, hq, rfl⟩ := List.mem_map.1 hp
      by_cases e : t = q.1
      · rw [if_pos e]; exact ⟨(h.tok q hq).1, hx⟩
      · rw [if_neg e]; exact h.tok q hq
    · rw [if_neg hf] at hp
      rcases List.mem_append.1 hp with hp | hp
      · exact h.tok p hp
      · simp at hp; subst hp; exact ⟨ht, hx⟩
  · rw [keys_put]
    by_cases hf : (L.find? fun p => decide (t = p.1)).isSome = true
    · rw [if_pos hf]; exact h.one
    · rw [if_neg hf]
      have hn : getL L t = none := by unfold getL; rw [none_of hf]; rfl
      have hn2 := getL_none hn
      rw [List.nodup_append]
      refine ⟨h.one, by simp, fun a ha b hb => ?_⟩
      simp at hb; subst hb
      obtain ⟨q, hq, rfl⟩ := List.mem_map.1 ha
      exact (hn2 q hq).symm
theorem SOk.filter {F : Sess → Prop} {L : SL} (h : SOk F L) (f : Bytes × Sess → Bool) : SOk F (L.filter f) :=
  ⟨fun p hp => h.tok p (List.mem_filter.1 hp).1, (List.Sublist.map _ List.filter_sublist).nodup h.one⟩
theorem putL_new {L : SL} {t : Bytes} (x : Sess) (h : getL L t = none) : putL L t x = L ++ [(t, x)] := by
  unfold putL
  rw [if_neg]
  rw [find_none h]; simp
theorem putL_len (L : SL) (t : Bytes) (x : Sess) : (putL L t x).length ≤ L.length + 1 := by
  unfold putL; split <;> simp
theorem putL_len_some {L : SL} {t : Bytes} {y : Sess} (x : Sess) (h : getL L t = some y) : (putL L t x).length = L.length := by
  unfold putL
  rw [if_pos]
  · simp
  · unfold getL at h
    cases hf : L.find? (fun p => decide (t = p.1)) with
    | none => rw [hf] at h; cases h
    | some p => rfl
theorem getL_filter {L : SL} (ho : (L.map (·.1)).Nodup) (f : Bytes × Sess → Bool) (t : Bytes) : getL (L.filter f) t = (getL L t).bind fun x => if f (t, x) then some x else none := by
  induction L with
  | nil => rfl
  | cons q L ih =>
    rw [List.map_cons, List.nodup_cons] at ho
    have ih := ih ho.2
    by_cases e : t = q.1
    · have hL : getL L t = none := by
        unfold getL
        simp only [Option.map_eq_none_iff, List.find?_eq_none]
        intro p hp
        simp only [decide_eq_true_eq]
        intro e2
        exact ho.1 (e ▸ e2 ▸ List.mem_map_of_mem (f := (·.1)) hp)
      rw [hL] at ih
      have hq : getL (q :: L) t = some q.2 := by unfold getL; rw [List.find?_cons, decide_eq_true e]; rfl
      rw [hq]
      rw [List.filter_cons]
      have et : (t, q.2) = q := by rw [e]
      show _ = if f (t, q.2) then some q.2 else none
      rw [et]
      by_cases hf : f q = true
      · rw [if_pos hf, if_pos hf]
        unfold getL; rw [List.find?_cons, decide_eq_true e]; rfl
      · rw [if_neg hf, if_neg hf, ih]; rfl
    · have hq : getL (q :: L) t = getL L t := by unfold getL; rw [List.find?_cons, decide_eq_false e]
      rw [hq, ← ih, List.filter_cons]
      by_cases hf : f q = true
      · rw [if_pos hf]
        show getL (q :: List.filter f L) t = _
        unfold getL; rw [List.find?_cons, decide_eq_false e]
      · rw [if_neg hf]
theorem perm_map_inv {α β : Type} {f : α → β} {d m : List β} (h : d.Perm m) : ∀ L : List α, m = L.map f → ∃ l : List α, l.Perm L ∧ d = l.map f := by
  induction h with
  | nil => intro L e; cases L with
    | nil => exact ⟨[], List.Perm.nil, rfl⟩
    | cons a L => cases e
  | cons x _ ih => intro L e; cases L with
    | nil => cases e
    | cons a L =>
      simp only [List.map_cons, List.cons.injEq] at e
      obtain ⟨l, h1, h2⟩ := ih L e.2
      exact ⟨a :: l, h1.cons a, by rw [List.map_cons, ← h2, e.1]⟩
  | swap x y l0 => intro L e; cases L with
    | nil => cases e
    | cons a L => cases L with
      | nil => simp at e
      | cons b L =>
        simp only [List.map_cons, List.cons.injEq] at e
        exact ⟨b :: a :: L, List.Perm.swap _ _ _, by simp only [List.map_cons, List.cons.injEq]; exact ⟨e.2.1, e.1, e.2.2⟩⟩
  | trans _ _ ih1 ih2 => intro L e
                         obtain ⟨l, h1, h2⟩ := ih2 L e
                         obtain ⟨l', h3, h4⟩ := ih1 l h2
                         exact ⟨l', h3.trans h1, h4⟩
def oldS (now : Int) (x : Sess) : Bool := decide ((x.ends : Int) ≤ now)
def delO (now : Int) (L : SL) (l : SL) : SL := l.foldl (fun L q => if oldS now q.2 then delL L q.1 else L) L
theorem delO_eq (now : Int) : ∀ l L : SL, delO now L l = L.filter fun p => !(l.any fun q => oldS now q.2 && decide (q.1 = p.1))
  | [], L => by
    show L = _
    exact (List.filter_eq_self.2 (by simp)).symm
  | q :: l, L => by
    unfold delO
    rw [List.foldl_cons]
    have ih := delO_eq now l (if oldS now q.2 then delL L q.1 else L)
    unfold delO at ih
    rw [ih]
    by_cases h : oldS now q.2 = true
    · rw [if_pos h]
      unfold delL
      rw [List.filter_filter]
      apply congrArg (fun f => List.filter f L)
      funext p
      rw [List.any_cons, h]
      cases decide (q.1 = p.1) <;> simp
    · rw [if_neg h]
      apply congrArg (fun f => List.filter f L)
      funext p
      rw [List.any_cons]
      simp [h]
theorem one_eq {L : SL} (ho : (L.map (·.1)).Nodup) {p q : Bytes × Sess} (hp : p ∈ L) (hq : q ∈ L) (h : p.1 = q.1) : p = q := by
  have h1 := getL_of_mem ho hp
  have h2 := getL_of_mem ho hq
  rw [h, h2] at h1
  exact Prod.ext h (Option.some.inj h1).symm
theorem delO_all (now : Int) {L l : SL} (ho : (L.map (·.1)).Nodup) (hp : l.Perm L) : delO now L l = L.filter fun p => !oldS now p.2 := by
  rw [delO_eq]
  apply List.filter_congr
  intro p hpL
  congr 1
  apply Bool.eq_iff_iff.2
  rw [List.any_eq_true]
  constructor
  · rintro ⟨q, hq, h⟩
    simp only [Bool.and_eq_true, decide_eq_true_eq] at h
    have := one_eq ho (hp.mem_iff.1 hq) hpL h.2
    rw [← this]; exact h.1
  · intro h
    exact ⟨p, hp.mem_iff.2 hpL, by simp [h]⟩
theorem getL_delO {now : Int} {L l : SL} (ho : (L.map (·.1)).Nodup) {q : Bytes × Sess} (hq : q ∈ L) (hn : ∀ p ∈ l, p.1 ≠ q.1) : getL (delO now L l) q.1 = some q.2 := by
  rw [delO_eq, getL_filter ho, getL_of_mem ho hq]
  simp only [Option.bind_some]
  rw [if_pos]
  simp only [Bool.not_eq_true', List.any_eq_false, Bool.and_eq_true, decide_eq_true_eq, not_and]
  intro p hp _
  exact hn p hp

theorem bs_list (l : Bytes) : (bs l).data.toList = l := rfl
theorem place_ge (t : Bytes) : Op.bytesLess (placeB t) [2, 115, 101, 115, 115, 105, 111, 110, 0, 0] = false := by
  simp [placeB, keyT, partB, sessW, Op.bytesLess]
theorem place_lt (t : Bytes) : Op.bytesLess (placeB t) [2, 115, 101, 115, 115, 105, 111, 110, 0, 1] = true := by
  simp [placeB, keyT, partB, sessW, Op.bytesLess]
structure Ss (w : World) (s t p b : Nat) (L : SL) : Prop where
  st : St w s t p b (kvOf L)
  ok : SOk Sess.Fine L
theorem Ss.below {w w' : World} {s t p b : Nat} {L : SL} (h : Ss w s t p b L) (k : Below w.heap.size w w') : Ss w' s t p b L := ⟨h.st.below k, h.ok⟩
end Go.Proofs.YtmbfenkmabdokaaGreatDoor
