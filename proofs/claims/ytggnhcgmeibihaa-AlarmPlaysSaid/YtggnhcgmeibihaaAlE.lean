/-
  The plain law of an alarm: its heap and its map against the document's list. Conditions: each theorem's own.
-/
import Derived.Test.YtggnhcgmeibihaaAlD
import Derived.Test.YtggnhcgmeibihaaEngY
namespace Go.Proofs.Ytggnhcgmeibihaa
open Go Go.RowKit
set_option linter.unusedVariables false

abbrev DE := Int × Int
def dBef (p q : DE) : Prop := p.2 < q.2 ∨ (p.2 = q.2 ∧ p.1 < q.1)
instance (p q : DE) : Decidable (dBef p q) := by unfold dBef; infer_instance
def dIns (x : DE) : List DE → List DE
  | [] => [x]
  | p :: l => if dBef p x then p :: dIns x l else x :: p :: l
def dClear (l : List DE) (id : Int) : List DE := l.filter fun p => decide (p.1 ≠ id)
def dSet (l : List DE) (id tm : Int) : List DE := dIns (id, tm) (dClear l id)
theorem dBef_trans {a b c : DE} (h1 : dBef a b) (h2 : dBef b c) : dBef a c := by unfold dBef at *; omega
theorem dIns_perm (x : DE) : ∀ (l : List DE), (dIns x l).Perm (x :: l)
  | [] => List.Perm.refl _
  | p :: l => by
    unfold dIns
    split
    · exact ((dIns_perm x l).cons p).trans (List.Perm.swap ..)
    · exact List.Perm.refl _
theorem dIns_srt (x : DE) : ∀ (l : List DE), l.Pairwise dBef → (∀ p ∈ l, p.1 ≠ x.1) → (dIns x l).Pairwise dBef
  | [], _, _ => List.pairwise_singleton _ _
  | p :: l, h, hx => by
    rw [List.pairwise_cons] at h
    unfold dIns
    split
    · rename_i hb
      rw [List.pairwise_cons]
      refine ⟨fun q hq => ?_, dIns_srt x l h.2 fun q hq => hx q (List.mem_cons_of_mem _ hq)⟩
      rcases List.mem_cons.1 ((dIns_perm x l).mem_iff.1 hq) with rfl | hq
      · exact hb
      · exact h.1 q hq
    · rename_i hb
      have hxp : dBef x p := by
        have := hx p List.mem_cons_self
        unfold dBef at hb ⊢
        omega
      rw [List.pairwise_cons, List.pairwise_cons]
      refine ⟨fun q hq => ?_, h.1, h.2⟩
      rcases List.mem_cons.1 hq with rfl | hq
      · exact hxp
      · exact dBef_trans hxp (h.1 q hq)
theorem dIns_at (x : DE) : ∀ (l : List DE) (k : Nat), k ≤ l.length → (∀ j p, j < k → l[j]? = some p → dBef p x) → (∀ p, l[k]? = some p → ¬ dBef p x) → l.take k ++ x :: l.drop k = dIns x l
  | [], k, h, _, _ => by
    rw [List.take_nil, List.drop_nil]
    rfl
  | p :: l, 0, _, _, h2 => by
    unfold dIns
    rw [if_neg (h2 p rfl)]
    rfl
  | p :: l, k + 1, h, h1, h2 => by
    unfold dIns
    rw [if_pos (h1 0 p (Nat.succ_pos _) rfl), List.take_succ_cons, List.drop_succ_cons, List.cons_append, dIns_at x l k (by simpa using h) (fun j q hj hq => h1 (j + 1) q (by omega) (by rw [List.getElem?_cons_succ]; exact hq)) (fun q hq => h2 q (by rw [List.getElem?_cons_succ]; exact hq))]
abbrev enD (x : En) : DE := (x.id, x.tm)
abbrev enK (x : En) : Int × Value := (x.id, enPt x)
/-- An alarm says what the document's list says. -/
structure AR (s : List En) (M : List ME) (l : List DE) : Prop where
  hd : Hd enR s s.length 0
  perm : (s.map enD).Perm l
  srt : l.Pairwise dBef
  ids : (l.map (·.1)).Nodup
  keys : (M.map (·.1)).Nodup
  get : ∀ id v, mGet M id = some v ↔ (id, v) ∈ s.map enK
theorem AR.init : AR [] [] [] := ⟨fun j _ h _ => absurd h (Nat.not_lt_zero _), List.Perm.refl _, List.Pairwise.nil, List.nodup_nil, List.nodup_nil, fun id v => by simp [mGet_nil]⟩
theorem AR.len {s : List En} {M : List ME} {l : List DE} (h : AR s M l) : s.length = l.length := by
  have := h.perm.length_eq
  rwa [List.length_map] at this
theorem AR.sids {s : List En} {M : List ME} {l : List DE} (h : AR s M l) : (s.map (·.id)).Nodup := by
  have h1 : (s.map (·.id)) = (s.map enD).map (·.1) := by rw [List.map_map]; rfl
  rw [h1]
  exact (h.perm.map _).nodup_iff.2 h.ids
theorem AR.miss {s : List En} {M : List ME} {l : List DE} (h : AR s M l) {id : Int} (hm : mGet M id = none) : ∀ x ∈ s, x.id ≠ id := fun x hx he => by
  have := (h.get id (enPt x)).2 (List.mem_map.2 ⟨x, hx, by rw [← he]⟩)
  rw [hm] at this
  cases this
theorem AR.missl {s : List En} {M : List ME} {l : List DE} (h : AR s M l) {id : Int} (hm : mGet M id = none) : ∀ p ∈ l, p.1 ≠ id := fun p hp he => by
  obtain ⟨x, hx, rfl⟩ := List.mem_map.1 (h.perm.mem_iff.2 hp)
  exact h.miss hm x hx he
theorem AR.hit {s : List En} {M : List ME} {l : List DE} (h : AR s M l) {id : Int} {v : Value} (hm : mGet M id = some v) : ∃ (i : Nat) (x : En), s[i]? = some x ∧ x.id = id ∧ v = enPt x := by
  obtain ⟨x, hx, he⟩ := List.mem_map.1 ((h.get id v).1 hm)
  obtain ⟨i, hi⟩ := List.mem_iff_getElem?.1 hx
  cases he
  exact ⟨i, x, hi, rfl, rfl⟩
theorem set_split {α : Type} : ∀ {s : List α} {i : Nat} {x : α}, i < s.length → (s.set i x).Perm (x :: s.eraseIdx i)
  | p :: s, 0, x, _ => List.Perm.refl _
  | p :: s, i + 1, x, h => by
    rw [List.set_cons_succ, List.eraseIdx_cons_succ]
    exact ((set_split (by simpa using h)).cons p).trans (List.Perm.swap ..)
theorem split_at {α : Type} {s : List α} {i : Nat} {x : α} (h : s[i]? = some x) : s.Perm (x :: s.eraseIdx i) := by
  have hi := (List.getElem?_eq_some_iff.1 h).1
  have := set_split (x := x) hi
  rwa [set_self h] at this
theorem AR.rest {s : List En} {M : List ME} {l : List DE} (h : AR s M l) {i : Nat} {x : En} (hx : s[i]? = some x) : ((s.eraseIdx i).map enD).Perm (dClear l x.id) := by
  have h1 : l.Perm (enD x :: (s.eraseIdx i).map enD) := h.perm.symm.trans ((split_at hx).map enD)
  have h2 := h1.filter fun p => decide (p.1 ≠ x.id)
  rw [List.filter_cons_of_neg (by simp)] at h2
  have h3 : ((s.eraseIdx i).map enD).filter (fun p => decide (p.1 ≠ x.id)) = (s.eraseIdx i).map enD := List.filter_eq_self.2 fun p hp => by
    have h4 := (h1.map (·.1)).nodup_iff.1 h.ids
    rw [List.map_cons, List.nodup_cons] at h4
    simp only [ne_eq, decide_not, Bool.not_eq_eq_eq_not, Bool.not_true, decide_eq_false_iff_not]
    intro he
    exact h4.1 (List.mem_map.2 ⟨p, hp, he⟩)
  rw [h3] at h2
  exact h2.symm
theorem dClear_ids {l : List DE} {id : Int} (h : (l.map (·.1)).Nodup) : ((dClear l id).map (·.1)).Nodup := h.sublist (List.filter_sublist.map _)
theorem dClear_srt {l : List DE} {id : Int} (h : l.Pairwise dBef) : (dClear l id).Pairwise dBef := h.sublist List.filter_sublist
theorem dClear_no {l : List DE} {id : Int} : ∀ p ∈ dClear l id, p.1 ≠ id := fun p hp => by simpa using (List.mem_filter.1 hp).2
theorem dClear_same {l : List DE} {id : Int} (h : ∀ p ∈ l, p.1 ≠ id) : dClear l id = l := List.filter_eq_self.2 fun p hp => by simpa using h p hp
theorem dSet_srt {l : List DE} {id tm : Int} (h : l.Pairwise dBef) : (dSet l id tm).Pairwise dBef := dIns_srt _ _ (dClear_srt h) dClear_no
theorem dSet_ids {l : List DE} {id tm : Int} (h : (l.map (·.1)).Nodup) : ((dSet l id tm).map (·.1)).Nodup := by
  unfold dSet
  rw [((dIns_perm (id, tm) (dClear l id)).map (·.1)).nodup_iff, List.map_cons, List.nodup_cons]
  exact ⟨fun hm => by
    obtain ⟨p, hp, he⟩ := List.mem_map.1 hm
    exact dClear_no p hp he, dClear_ids h⟩
section
variable {P : Program} {iv : Value} {O : HOb P iv (List En)} (hO : OL_ O enR) {s : List En} {M : List ME} {l : List DE}
include hO
theorem AR.setOld (h : AR s M l) {i : Nat} {x : En} (hx : s[i]? = some x) (tm : Int) : AR (O.fx (s.set i ⟨x.b, x.id, tm⟩) i) M (dSet l x.id tm) := by
  have hi := (List.getElem?_eq_some_iff.1 hx).1
  have hp := fx_perm hO (s.set i ⟨x.b, x.id, tm⟩) i
  have hs := set_split (x := (⟨x.b, x.id, tm⟩ : En)) hi
  refine ⟨?_, ?_, dSet_srt h.srt, dSet_ids h.ids, h.keys, fun id v => ?_⟩
  · have h1 := fx_heap hO enR_sw (s.set i ⟨x.b, x.id, tm⟩) i (by rw [List.length_set]; exact hi) (h.hd.fk enR_sw hi _)
    rw [hp.length_eq]
    exact h1
  · exact ((hp.trans hs).map enD).trans (((h.rest hx).cons _).trans (dIns_perm _ _).symm)
  · rw [h.get, (((hp.trans hs).map enK)).mem_iff, ((split_at hx).map enK).mem_iff]
    exact Iff.rfl
theorem AR.setNew (h : AR s M l) {x : En} (hm : mGet M x.id = none) (c : Nat) : AR (O.up (s.length + 1) (s ++ [x]) s.length) (mPut M x.id (enPt x) c).1 (dSet l x.id x.tm) := by
  have hp := up_perm hO (s.length + 1) (s ++ [x]) s.length
  have hs : (s ++ [x]).Perm (x :: s) := List.perm_append_comm
  have hl : (s ++ [x]).length = s.length + 1 := by rw [List.length_append]; rfl
  refine ⟨?_, ?_, dSet_srt h.srt, dSet_ids h.ids, mPut_nodup h.keys, fun id v => ?_⟩
  · rw [hp.length_eq, hl]
    refine up_heap hO enR_sw (s.length + 1) (s.length + 1) (s ++ [x]) s.length (by omega) (by omega) (by omega) fun j h0 hj => ⟨fun hji => ?_, fun hp2 _ => by omega⟩
    have := h.hd j h0 (by omega) (Nat.zero_le _)
    unfold ltL at this ⊢
    rw [List.getElem?_append_left (by omega), List.getElem?_append_left (by omega)]
    exact this
  · unfold dSet
    rw [dClear_same (h.missl hm)]
    exact ((hp.trans hs).map enD).trans ((h.perm.cons _).trans (dIns_perm _ _).symm)
  · rw [mGet_put, ((hp.trans hs).map enK).mem_iff, List.map_cons, List.mem_cons]
    by_cases he : id = x.id
    · rw [if_pos he]
      constructor
      · intro h2
        cases h2
        exact .inl (by rw [he])
      · rintro (h2 | h2)
        · cases h2; rfl
        · rw [he, ← h.get, hm] at h2
          cases h2
    · rw [if_neg he, h.get]
      exact ⟨.inr, fun h2 => h2.resolve_left fun e => he (congrArg Prod.fst e)⟩
omit hO in
theorem AR.less_ (h : AR s M l) {i : Nat} {x : En} (hx : s[i]? = some x) {t : List En} (ht : t.Perm (s.eraseIdx i)) (hh : Hd enR t t.length 0) : AR t (mDel M x.id) (dClear l x.id) := by
  refine ⟨hh, (ht.map enD).trans (h.rest hx), dClear_srt h.srt, dClear_ids h.ids, mDel_nodup h.keys, fun id v => ?_⟩
  have hs := (split_at hx)
  have h4 : ∀ y ∈ s.eraseIdx i, y.id ≠ x.id := fun y hy he => by
    have := (hs.map (·.id)).nodup_iff.1 h.sids
    rw [List.map_cons, List.nodup_cons] at this
    exact this.1 (List.mem_map.2 ⟨y, hy, he⟩)
  rw [mGet_del _ _ _ h.keys, (ht.map enK).mem_iff]
  by_cases he : id = x.id
  · rw [if_pos he]
    constructor
    · intro h2; cases h2
    · intro h2
      obtain ⟨y, hy, h3⟩ := List.mem_map.1 h2
      exact absurd ((congrArg Prod.fst h3).trans he) (h4 y hy)
  · rw [if_neg he, h.get, (hs.map enK).mem_iff, List.map_cons, List.mem_cons]
    exact ⟨fun h2 => h2.resolve_left fun e => he (congrArg Prod.fst e), .inr⟩
omit hO in
theorem perm_rest {t s : List En} {i : Nat} {x : En} (hx : s[i]? = some x) (hp : t.Perm s) (hl : t[s.length - 1]? = some x) : (t.take (s.length - 1)).Perm (s.eraseIdx i) := by
  have h0 := (List.getElem?_eq_some_iff.1 hx).1
  have hlen := hp.length_eq
  have h1 : t = t.take (s.length - 1) ++ [x] := by
    obtain ⟨h2, h3⟩ := List.getElem?_eq_some_iff.1 hl
    have h4 := List.take_append_drop (s.length - 1) t
    have h5 := List.drop_eq_getElem_cons h2
    rw [h3, show s.length - 1 + 1 = t.length by omega, List.drop_length] at h5
    rw [h5] at h4
    exact h4.symm
  have h2 : (x :: t.take (s.length - 1)).Perm t := by
    conv => rhs; rw [h1]
    exact List.perm_append_comm (l₁ := [x])
  exact (h2.trans (hp.trans (split_at hx))).cons_inv
theorem AR.clear (h : AR s M l) {i : Nat} {x : En} (hx : s[i]? = some x) : AR ((O.rm s i).take (s.length - 1)) (mDel M x.id) (dClear l x.id) := by
  have hi := (List.getElem?_eq_some_iff.1 hx).1
  have hl := (rm_perm hO s i).length_eq
  refine h.less_ hx (perm_rest hx (rm_perm hO s i) ((rm_last hO s i hi).trans hx)) ?_
  rw [show ((O.rm s i).take (s.length - 1)).length = s.length - 1 by rw [List.length_take]; omega]
  exact hd_take (rm_heap hO enR_sw s i hi h.hd) (by omega)
theorem AR.pop (h : AR s M l) {x : En} (hx : s[0]? = some x) : AR ((O.pp s).take (s.length - 1)) (mDel M x.id) (dClear l x.id) := by
  have hi := (List.getElem?_eq_some_iff.1 hx).1
  have hl := (pp_perm hO s).length_eq
  refine h.less_ hx (perm_rest hx (pp_perm hO s) ((pp_last hO s hi).trans hx)) ?_
  rw [show ((O.pp s).take (s.length - 1)).length = s.length - 1 by rw [List.length_take]; omega]
  exact hd_take (pp_heap hO enR_sw s h.hd.dh hi) (by omega)
end
/-- The root is the list's first. -/
theorem AR.root {s : List En} {M : List ME} {l : List DE} (h : AR s M l) {x : En} (hx : s[0]? = some x) : ∃ rest, l = enD x :: rest ∧ dClear l x.id = rest := by
  have h0 := (List.getElem?_eq_some_iff.1 hx).1
  have hr := hd_root enR_sw (Nat.le_refl _) h.hd
  cases l with
  | nil =>
    have := h.len
    rw [List.length_nil] at this
    omega
  | cons p rest =>
    have hs := h.srt
    rw [List.pairwise_cons] at hs
    have hid := h.ids
    rw [List.map_cons, List.nodup_cons] at hid
    have hxl : enD x ∈ p :: rest := h.perm.mem_iff.1 (List.mem_map.2 ⟨x, List.mem_of_getElem? hx, rfl⟩)
    have hpx : p = enD x := by
      rcases List.mem_cons.1 hxl with e | e
      · exact e.symm
      · obtain ⟨y, hy, rfl⟩ := List.mem_map.1 (h.perm.mem_iff.2 (List.mem_cons_self (a := p) (l := rest)))
        obtain ⟨i, hi⟩ := List.mem_iff_getElem?.1 hy
        have h1 := hr i (List.getElem?_eq_some_iff.1 hi).1
        unfold ltL at h1
        rw [hi, hx] at h1
        have h2 := hs.1 _ e
        simp only [enR, decide_eq_false_iff_not] at h1
        exact absurd h2 h1
    subst hpx
    refine ⟨rest, rfl, ?_⟩
    unfold dClear
    rw [List.filter_cons_of_neg (by simp)]
    exact List.filter_eq_self.2 fun q hq => by
      simp only [ne_eq, decide_not, Bool.not_eq_eq_eq_not, Bool.not_true, decide_eq_false_iff_not]
      intro he
      exact hid.1 (List.mem_map.2 ⟨q, hq, he⟩)
theorem AR.find {s : List En} {M : List ME} {l : List DE} (h : AR s M l) {i : Nat} {x : En} (hx : s[i]? = some x) : enD x ∈ l := h.perm.mem_iff.1 (List.mem_map.2 ⟨x, List.mem_of_getElem? hx, rfl⟩)
end Go.Proofs.Ytggnhcgmeibihaa
