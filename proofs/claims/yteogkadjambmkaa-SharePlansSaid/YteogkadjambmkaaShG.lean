/-
  The plain law of share: who goes. No program's text; conditions: each theorem's own.
-/
import Derived.Test.YteogkadjambmkaaShF
import Derived.Test.YteogkadjambmkaaShD
namespace Go.Proofs.Yteogkadjambmkaa
open Go Go.RowKit
set_option linter.unusedVariables false

section
variable (cap : Int) (ws : List Int)
/-- a class's excess -/
def exL (left : List (List Int)) (d : Nat) : Int := excS cap ws d (left.getD d []).sum
/-- of all that have any the greatest excess, of those the least number -/
def Best (left : List (List Int)) (c : Nat) : Prop := left.getD c [] ≠ [] ∧ ∀ d, left.getD d [] ≠ [] → exL cap ws left d < exL cap ws left c ∨ (exL cap ws left d = exL cap ws left c ∧ c ≤ d)
/-- who goes -/
inductive PlanR : List (List Int) → List Nat → Int → List (Nat × Nat) → Prop
  | stop {left : List (List Int)} {went : List Nat} {total : Int} (h : total ≤ cap) : PlanR left went total []
  | step {left : List (List Int)} {went : List Nat} {total : Int} {c : Nat} {x : Int} {xs : List Int} {out : List (Nat × Nat)} (h : cap < total) (hb : Best cap ws left c) (hx : left.getD c [] = x :: xs) (hk : PlanR (left.set c xs) (went.set c (went.getD c 0 + 1)) (total - x) out) : PlanR left went total ((c, went.getD c 0) :: out)
end
section
variable {cap : Int} {ws : List Int} {left : List (List Int)} {went : List Nat} {total : Int}
theorem Best.uniq {c d : Nat} (h1 : Best cap ws left c) (h2 : Best cap ws left d) : c = d := by
  have e1 := h1.2 d h2.1
  have e2 := h2.2 c h1.1
  omega
theorem PlanR.uniq {out : List (Nat × Nat)} (h : PlanR cap ws left went total out) : ∀ {out' : List (Nat × Nat)}, PlanR cap ws left went total out' → out = out' := by
  induction h with
  | stop h =>
    intro out' h'
    cases h' with
    | stop _ => rfl
    | step h1 => omega
  | step h hb hx hk ih =>
    intro out' h'
    cases h' with
    | stop h1 => omega
    | step h1 hb' hx' hk' =>
      have := hb.uniq hb'
      subst this
      rw [hx] at hx'
      cases hx'
      rw [ih hk']
theorem getD_set {α : Type} (l : List α) (c d : Nat) (v z : α) (hc : c < l.length) : (l.set c v).getD d z = if d = c then v else l.getD d z := by
  rw [List.getD_eq_getElem?_getD, List.getD_eq_getElem?_getD, List.getElem?_set]
  by_cases h : c = d
  · subst h
    rw [if_pos rfl, if_pos hc, if_pos rfl]
    rfl
  · rw [if_neg h, if_neg (fun hh => h hh.symm)]
theorem getD_lt {α : Type} {l : List (List α)} {c : Nat} (h : l.getD c [] ≠ []) : c < l.length := by
  rcases Nat.lt_or_ge c l.length with h1 | h1
  · exact h1
  · rw [List.getD_eq_getElem?_getD, List.getElem?_eq_none h1] at h
    exact absurd rfl h
theorem flat_set {l : List (List Int)} {c : Nat} {x : Int} {xs : List Int} (h : l.getD c [] = x :: xs) : l.flatten.length = (l.set c xs).flatten.length + 1 ∧ l.flatten.sum = (l.set c xs).flatten.sum + x ∧ (∀ y ∈ (l.set c xs).flatten, y ∈ l.flatten) ∧ x ∈ l.flatten := by
  have hc : c < l.length := getD_lt (by rw [h]; exact List.cons_ne_nil _ _)
  have hg : l[c] = x :: xs := by
    rw [List.getD_eq_getElem?_getD, List.getElem?_eq_getElem hc] at h
    exact h
  have e1 : l = l.take c ++ (x :: xs) :: l.drop (c + 1) := by
    rw [← hg]
    conv => lhs; rw [← List.take_append_drop c l]
    rw [List.drop_eq_getElem_cons hc]
  have e2 : l.set c xs = l.take c ++ xs :: l.drop (c + 1) := by
    rw [List.set_eq_take_append_cons_drop, if_pos hc]
  have e3 : l.flatten = (l.take c).flatten ++ (x :: xs ++ (l.drop (c + 1)).flatten) := by
    conv => lhs; rw [e1]
    rw [List.flatten_append, List.flatten_cons]
  have e4 : (l.set c xs).flatten = (l.take c).flatten ++ (xs ++ (l.drop (c + 1)).flatten) := by
    rw [e2, List.flatten_append, List.flatten_cons]
  refine ⟨?_, ?_, fun y hy => ?_, ?_⟩
  · rw [e3, e4]; simp only [List.length_append, List.length_cons]; omega
  · rw [e3, e4]; simp only [List.sum_append, List.sum_cons, List.cons_append]; omega
  · rw [e3]; rw [e4] at hy
    simp only [List.mem_append, List.mem_cons, List.cons_append] at hy ⊢
    rcases hy with h | h | h
    · exact .inl h
    · exact .inr (.inr (.inl h))
    · exact .inr (.inr (.inr h))
  · rw [e3]; simp

/-- The heap's lines, and what is left. -/
structure Rel (cap : Int) (ws : List Int) (left : List (List Int)) (went : List Nat) (hs : List Ln) : Prop where
  nd : (hs.map Ln.cls).Nodup
  ndb : (hs.map Ln.b).Nodup
  mem : ∀ x ∈ hs, left.getD x.cls [] = x.l ∧ x.l ≠ [] ∧ x.went = went.getD x.cls 0 ∧ x.exc = excS cap ws x.cls x.l.sum
  all : ∀ d, left.getD d [] ≠ [] → ∃ x ∈ hs, x.cls = d
theorem Rel.perm {hs hs' : List Ln} (h : Rel cap ws left went hs) (hp : hs'.Perm hs) : Rel cap ws left went hs' :=
  ⟨(hp.map _).nodup_iff.2 h.nd, (hp.map _).nodup_iff.2 h.ndb, fun x hx => h.mem x (hp.mem_iff.1 hx), fun d hd => by
    obtain ⟨x, hx, hc⟩ := h.all d hd
    exact ⟨x, hp.mem_iff.2 hx, hc⟩⟩
theorem Rel.best {hs : List Ln} {x : Ln} (h : Rel cap ws left went hs) (hd : Hd lnR hs hs.length 0) (hx : hs[0]? = some x) : Best cap ws left x.cls := by
  have hxm : x ∈ hs := List.mem_of_getElem? hx
  obtain ⟨h1, h2, h3, h4⟩ := h.mem x hxm
  refine ⟨by rw [h1]; exact h2, fun d hdn => ?_⟩
  obtain ⟨y, hy, rfl⟩ := h.all d hdn
  obtain ⟨g1, g2, g3, g4⟩ := h.mem y hy
  obtain ⟨i, hi, hiy⟩ := List.mem_iff_getElem.1 hy
  have hr := hd_root lnR_sw (Nat.le_refl _) hd i hi
  unfold ltL at hr
  rw [hx, List.getElem?_eq_getElem hi, hiy] at hr
  simp only [lnR, decide_eq_false_iff_not] at hr
  unfold exL
  rw [h1, g1, ← h4, ← g4]
  omega
theorem Rel.step {x : Ln} {tl : List Ln} {z : Int} {zs : List Int} (h : Rel cap ws left went (x :: tl)) (hl : x.l = z :: zs) (hwl : went.length = left.length) :
    (zs = [] → Rel cap ws (left.set x.cls zs) (went.set x.cls (went.getD x.cls 0 + 1)) tl) ∧
    (zs ≠ [] → ∀ x' : Ln, x'.b = x.b → x'.cls = x.cls → x'.l = zs → x'.went = x.went + 1 → x'.exc = x.exc - z * ws.sum → Rel cap ws (left.set x.cls zs) (went.set x.cls (went.getD x.cls 0 + 1)) (x' :: tl)) := by
  obtain ⟨h1, h2, h3, h4⟩ := h.mem x List.mem_cons_self
  have hc : x.cls < left.length := getD_lt (by rw [h1]; exact h2)
  have hnd := h.nd
  have hndb := h.ndb
  rw [List.map_cons, List.nodup_cons] at hnd hndb
  have hne : ∀ y ∈ tl, y.cls ≠ x.cls := fun y hy he => hnd.1 (by rw [← he]; exact List.mem_map_of_mem hy)
  have hmem : ∀ y ∈ tl, (left.set x.cls zs).getD y.cls [] = y.l ∧ y.l ≠ [] ∧ y.went = (went.set x.cls (went.getD x.cls 0 + 1)).getD y.cls 0 ∧ y.exc = excS cap ws y.cls y.l.sum := fun y hy => by
    obtain ⟨g1, g2, g3, g4⟩ := h.mem y (List.mem_cons_of_mem _ hy)
    rw [getD_set _ _ _ _ _ hc, getD_set _ _ _ _ _ (by omega), if_neg (hne y hy), if_neg (hne y hy)]
    exact ⟨g1, g2, g3, g4⟩
  have hall : ∀ d, d ≠ x.cls → (left.set x.cls zs).getD d [] ≠ [] → ∃ y ∈ tl, y.cls = d := fun d hd hn => by
    rw [getD_set _ _ _ _ _ hc, if_neg hd] at hn
    obtain ⟨y, hy, hyc⟩ := h.all d hn
    rcases List.mem_cons.1 hy with rfl | hy
    · exact absurd hyc.symm hd
    · exact ⟨y, hy, hyc⟩
  refine ⟨fun hz => ⟨hnd.2, hndb.2, hmem, fun d hd => ?_⟩, fun hz x' e1 e2 e3 e4 e5 => ⟨?_, ?_, fun y hy => ?_, fun d hd => ?_⟩⟩
  · refine hall d (fun he => ?_) hd
    rw [getD_set _ _ _ _ _ hc, if_pos he, hz] at hd
    exact hd rfl
  · rw [List.map_cons, List.nodup_cons, e2]; exact hnd
  · rw [List.map_cons, List.nodup_cons, e1]; exact hndb
  · rcases List.mem_cons.1 hy with rfl | hy
    · rw [e2, getD_set _ _ _ _ _ hc, getD_set _ _ _ _ _ (by omega), if_pos rfl, if_pos rfl]
      refine ⟨e3.symm, by rw [e3]; exact hz, by rw [e4, h3], ?_⟩
      rw [e5, h4, e3, hl]
      unfold excS
      rw [List.sum_cons, Int.add_mul]
      omega
    · exact hmem y hy
  · by_cases he : d = x.cls
    · exact ⟨x', List.mem_cons_self, by rw [e2, he]⟩
    · obtain ⟨y, hy, hyc⟩ := hall d he hd
      exact ⟨y, List.mem_cons_of_mem _ hy, hyc⟩
theorem Rel.ne {hs : List Ln} (h : Rel cap ws left went hs) (ht : left.flatten.sum = total) (hc : 0 ≤ cap) (hlt : cap < total) : 0 < hs.length := by
  have h1 : left.flatten ≠ [] := fun h0 => by rw [h0] at ht; simp at ht; omega
  obtain ⟨z, hz⟩ : ∃ z, z ∈ left.flatten := List.exists_mem_of_ne_nil _ h1
  obtain ⟨l, hl, hz⟩ := List.mem_flatten.1 hz
  obtain ⟨d, hd, rfl⟩ := List.mem_iff_getElem.1 hl
  obtain ⟨x, hx, _⟩ := h.all d (by rw [List.getD_eq_getElem?_getD, List.getElem?_eq_getElem hd]; intro h2; have h2 : left[d] = [] := h2; rw [h2] at hz; cases hz)
  exact List.length_pos_of_mem hx
end
end Go.Proofs.Yteogkadjambmkaa
