/-
  The document's board: who is due, plain. Conditions: each theorem's own.
-/
import Derived.Test.YtidhpofcofknhaaRbE
namespace Go.Proofs.Ytidhpofcofknhaa
open Go Go.RowKit
set_option linter.unusedVariables false

theorem nodup_idx {l : List Int} (h : l.Nodup) {i j : Nat} {hi : i < l.length} {hj : j < l.length} (e : l[i] = l[j]) : i = j := by
  rcases Nat.lt_trichotomy i j with h1 | h1 | h1
  · exact absurd e (List.pairwise_iff_getElem.1 h i j hi hj h1)
  · exact h1
  · exact absurd e.symm (List.pairwise_iff_getElem.1 h j i hj hi h1)
/-- who is due first, of the first i groups that aren't done -/
def BestS (gs : List BG) (dn : List Int) (now : Int) (i : Nat) : Option Nat → Prop
  | none => ∀ (j : Nat) (g : BG), j < i → gs[j]? = some g → g.id ∉ dn → ¬ g.tm ≤ now
  | some j => j < i ∧ ∃ g, gs[j]? = some g ∧ g.id ∉ dn ∧ g.tm ≤ now ∧ ∀ (j' : Nat) (g' : BG), j' < i → gs[j']? = some g' → g'.id ∉ dn → g'.tm ≤ now → g.tm < g'.tm ∨ (g.tm = g'.tm ∧ j ≤ j')
section
variable {gs : List BG} {dn : List Int} {now last : Int} {i : Nat} {b : Option Nat} {g : BG}
theorem BestS.zero : BestS gs dn now 0 none := fun j g h => absurd h (Nat.not_lt_zero _)
theorem BestS.skip (h : BestS gs dn now i b) (hg : gs[i]? = some g) (hno : g.id ∈ dn ∨ ¬ g.tm ≤ now) : BestS gs dn now (i + 1) b := by
  cases b with
  | none =>
    intro j g' hj hg' hd
    by_cases e : j = i
    · subst e
      rw [hg] at hg'
      cases hg'
      exact hno.resolve_left hd
    · exact h j g' (by omega) hg' hd
  | some b =>
    obtain ⟨h1, gb, h2, h3, h4, h5⟩ := h
    refine ⟨by omega, gb, h2, h3, h4, fun j g' hj hg' hd ht => ?_⟩
    by_cases e : j = i
    · subst e
      rw [hg] at hg'
      cases hg'
      exact (hno.elim hd fun h => h ht).elim
    · exact h5 j g' (by omega) hg' hd ht
theorem BestS.first (h : BestS gs dn now i none) (hg : gs[i]? = some g) (hd : g.id ∉ dn) (ht : g.tm ≤ now) : BestS gs dn now (i + 1) (some i) := by
  refine ⟨Nat.lt_succ_self _, g, hg, hd, ht, fun j g' hj hg' hd' ht' => ?_⟩
  by_cases e : j = i
  · subst e
    rw [hg] at hg'
    cases hg'
    exact .inr ⟨rfl, Nat.le_refl _⟩
  · exact absurd ht' (h j g' (by omega) hg' hd')
theorem BestS.better {j : Nat} {gj : BG} (h : BestS gs dn now i (some j)) (hj : gs[j]? = some gj) (hg : gs[i]? = some g) (hd : g.id ∉ dn) (ht : g.tm ≤ now) (hlt : g.tm < gj.tm) : BestS gs dn now (i + 1) (some i) := by
  obtain ⟨h1, gb, h2, h3, h4, h5⟩ := h
  rw [hj] at h2
  cases h2
  refine ⟨Nat.lt_succ_self _, g, hg, hd, ht, fun j' g' hj' hg' hd' ht' => ?_⟩
  by_cases e : j' = i
  · subst e
    rw [hg] at hg'
    cases hg'
    exact .inr ⟨rfl, Nat.le_refl _⟩
  · have := h5 j' g' (by omega) hg' hd' ht'
    exact .inl (by omega)
theorem BestS.worse {j : Nat} {gj : BG} (h : BestS gs dn now i (some j)) (hj : gs[j]? = some gj) (hg : gs[i]? = some g) (hlt : ¬ g.tm < gj.tm) : BestS gs dn now (i + 1) (some j) := by
  obtain ⟨h1, gb, h2, h3, h4, h5⟩ := h
  rw [hj] at h2
  cases h2
  refine ⟨by omega, gj, hj, h3, h4, fun j' g' hj' hg' hd' ht' => ?_⟩
  by_cases e : j' = i
  · subst e
    rw [hg] at hg'
    cases hg'
    by_cases e2 : gj.tm = g.tm
    · exact .inr ⟨e2, by omega⟩
    · exact .inl (by omega)
  · exact h5 j' g' (by omega) hg' hd' ht'
theorem ids_lt (hok : BOk last gs) {i j : Nat} {g g' : BG} (h1 : gs[i]? = some g) (h2 : gs[j]? = some g') (h : i < j) : g.id < g'.id := by
  have hi := (List.getElem?_eq_some_iff.1 h1)
  have hj := (List.getElem?_eq_some_iff.1 h2)
  obtain ⟨hil, rfl⟩ := hi
  obtain ⟨hjl, rfl⟩ := hj
  have := List.pairwise_iff_getElem.1 hok.ids i j (by rw [List.length_map]; exact hil) (by rw [List.length_map]; exact hjl) h
  rwa [List.getElem_map, List.getElem_map] at this
/-- all are done -/
theorem BestS.none_end (hok : BOk last gs) {k : Nat} (hk : k ≤ (dueI gs now).length) (h : BestS gs ((dueI gs now).take k) now gs.length none) : k = (dueI gs now).length := by
  refine Nat.le_antisymm hk (Nat.le_of_not_lt fun hlt => ?_)
  have hx := List.getElem_mem hlt
  obtain ⟨g, hg, hgi⟩ := dueI_sub hx
  obtain ⟨j, hj⟩ := List.mem_iff_getElem?.1 hg
  refine h j g (List.getElem?_eq_some_iff.1 hj).1 hj (fun hm => ?_) ((dueI_mem hok hg).1 (hgi ▸ hx))
  obtain ⟨i, hi, e⟩ := List.getElem_of_mem hm
  rw [List.length_take] at hi
  rw [List.getElem_take, hgi] at e
  have := nodup_idx (dueI_nd hok (now := now)) e
  omega
/-- the first that isn't done -/
theorem BestS.some_end (hok : BOk last gs) {k j : Nat} (hk : k ≤ (dueI gs now).length) (h : BestS gs ((dueI gs now).take k) now gs.length (some j)) (hg : gs[j]? = some g) : (dueI gs now)[k]? = some g.id := by
  obtain ⟨h1, gb, h2, h3, h4, h5⟩ := h
  rw [hg] at h2
  cases h2
  have hgm := List.mem_of_getElem? hg
  have hin := (dueI_mem hok hgm).2 h4
  obtain ⟨i, hi, e⟩ := List.getElem_of_mem hin
  have hki : k ≤ i := Nat.le_of_not_lt fun hlt => h3 (by
    rw [← e]
    exact List.mem_take_iff_getElem.2 ⟨i, by omega, rfl⟩)
  rcases Nat.lt_or_eq_of_le hki with hlt | rfl
  · exfalso
    have hx := List.getElem_mem (show k < (dueI gs now).length by omega)
    obtain ⟨g', hg', hgi'⟩ := dueI_sub hx
    obtain ⟨j', hj'⟩ := List.mem_iff_getElem?.1 hg'
    have ht' := (dueI_mem hok hg').1 (hgi' ▸ hx)
    have hd' : g'.id ∉ (dueI gs now).take k := fun hm => by
      obtain ⟨i', hi', e'⟩ := List.getElem_of_mem hm
      rw [List.length_take] at hi'
      rw [List.getElem_take, hgi'] at e'
      have := nodup_idx (dueI_nd hok (now := now)) e'
      omega
    have h6 := h5 j' g' (List.getElem?_eq_some_iff.1 hj').1 hj' hd' ht'
    -- the list is in order
    obtain ⟨T, hT⟩ : ∃ T, T = (bAl gs).takeWhile fun p => decide (p.2 ≤ now) := ⟨_, rfl⟩
    have hTI : dueI gs now = T.map (·.1) := by rw [hT]; rfl
    have hTs : T.Pairwise dBef := hT ▸ (bAl_srt hok.idn).sublist (List.takeWhile_sublist _)
    have hTm : ∀ p ∈ T, ∃ x ∈ gs, bT x = p := fun p hp => bAl_mem.1 ((List.takeWhile_sublist _).subset (hT ▸ hp))
    have hil : i < T.length := by rw [hTI, List.length_map] at hi; exact hi
    have hbef := List.pairwise_iff_getElem.1 hTs k i (by omega) hil hlt
    obtain ⟨x, hx1, hx2⟩ := hTm _ (List.getElem_mem (show k < T.length by omega))
    obtain ⟨y, hy1, hy2⟩ := hTm _ (List.getElem_mem hil)
    have e1 : x.id = g'.id := by
      have : (dueI gs now)[k]'(by omega) = T[k].1 := by simp only [hTI, List.getElem_map]
      rw [hgi', this, ← hx2]
    have e2 : y.id = g.id := by
      have : (dueI gs now)[i] = T[i].1 := by simp only [hTI, List.getElem_map]
      rw [← e, this, ← hy2]
    obtain rfl := nodup_eq BG.id hok.idn hx1 hg' e1
    obtain rfl := nodup_eq BG.id hok.idn hy1 hgm e2
    rw [← hx2, ← hy2] at hbef
    unfold dBef at hbef
    dsimp only at hbef
    rcases h6 with h6 | ⟨h6, h7⟩
    · omega
    · rcases Nat.lt_or_eq_of_le h7 with h7 | rfl
      · have := ids_lt hok hg hj' h7
        omega
      · rw [hg] at hj'
        cases hj'
        have := nodup_idx (dueI_nd hok (now := now)) (e.trans hgi')
        omega
  · rw [List.getElem?_eq_getElem hi, e]
end
end Go.Proofs.Ytidhpofcofknhaa
