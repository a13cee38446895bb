/-
  Rows of one's own in a row's cells: one of them taken out, and put back. Conditions: each theorem's own.
-/
import Derived.Test.YteogkadjambmkaaQuP
namespace Go.Proofs.Yteogkadjambmkaa
open Go Go.RowKit
set_option linter.unusedVariables false

/-- Of the cells of which S is true each is a row of its own. -/
def LLs (E : TypeId) (κ : IntKind) (S : Nat → Prop) (vs : List Value) (q : List (List Int)) : Vp :=
  ⟨fun w F _ => vs.length = q.length ∧ ∀ i v l, S i → vs[i]? = some v → q[i]? = some l → w.ownsRow 0 E 1 v l.length (l.map (.int κ)) ∧ ∀ k, v.ownBlock = some k → F k ∧ ∀ i' v', S i' → i' ≠ i → vs[i']? = some v' → v'.ownBlock ≠ some k,
   fun {w w' A B v} ⟨h1, h2⟩ hk => ⟨h1, fun i v l hS hv hl => by
    obtain ⟨h3, h4⟩ := h2 i v l hS hv hl
    exact ⟨own_keep h3 (fun k hk2 => (hk k (h4 k hk2).1 (World.ownsRow.lt h3 k hk2).2).1), fun k hk2 => ⟨(hk k (h4 k hk2).1 (World.ownsRow.lt h3 k hk2).2).2, (h4 k hk2).2⟩⟩⟩⟩
section
variable {E : TypeId} {κ : IntKind} {vs : List Value} {q : List (List Int)} {w w0 : World} {F G : Nat → Prop} {ol : OL} {j : Nat}
theorem LLs.nil (n : Nat) (w : World) (F : Nat → Prop) (S : Nat → Prop) (u : Value) : (LLs E κ S (List.replicate n (.slice none 0 0)) (List.replicate n [])).at_ w F u :=
  ⟨by simp, fun i v l _ hv hl => by
    rw [List.getElem?_replicate] at hv hl
    split at hv
    · rw [if_pos (by assumption)] at hl
      cases hv; cases hl
      exact ⟨World.ownsRow_nil w _ _ _, fun k hk => by cases hk⟩
    · cases hv⟩
/-- one is taken out -/
theorem LLs.take {v : Value} {l : List Int} (hh : Hp w0 w (.rep (fun w => (LLs E κ (fun _ => True) vs q).at_ w F (.bool true)) F true :: ol)) (hv : vs[j]? = some v) (hl : q[j]? = some l) :
    Hp w0 w (.rep (fun w => (rowV 0 E 1 l.length (l.map (.int κ))).at_ w (fun k => v.ownBlock = some k) v) (fun k => v.ownBlock = some k) true :: .rep (fun w => (LLs E κ (fun i => i ≠ j) vs q).at_ w (fun k => F k ∧ v.ownBlock ≠ some k) (.bool true)) (fun k => F k ∧ v.ownBlock ≠ some k) true :: ol) := by
  obtain ⟨⟨h1, h2⟩, _, hlt⟩ := hh.own _ List.mem_cons_self
  obtain ⟨h3, h4⟩ := h2 j v l trivial hv hl
  refine Hp.regroup [.rep (fun w => (LLs E κ (fun _ => True) vs q).at_ w F (.bool true)) F true] [.rep (fun w => (rowV 0 E 1 l.length (l.map (.int κ))).at_ w (fun k => v.ownBlock = some k) v) (fun k => v.ownBlock = some k) true, .rep (fun w => (LLs E κ (fun i => i ≠ j) vs q).at_ w (fun k => F k ∧ v.ownBlock ≠ some k) (.bool true)) (fun k => F k ∧ v.ownBlock ≠ some k) true] hh (fun e he => ?_) (fun e he => ?_) ?_ (fun e he k hk => ?_) (fun e he k hk => ?_)
  · rw [List.mem_singleton] at he
    subst he; rfl
  · simp only [List.mem_cons, List.not_mem_nil, or_false] at he
    rcases he with rfl | rfl
    · exact ⟨rfl, ⟨h3, fun k hk => hk⟩, Vp.loc (p := rowV 0 E 1 l.length (l.map (.int κ))), fun k hk => (World.ownsRow.lt h3 k hk).2⟩
    · refine ⟨rfl, ⟨h1, fun i v' l' hi hv' hl' => ?_⟩, Vp.loc (p := LLs E κ (fun i => i ≠ j) vs q), fun k hk => hlt k hk.1⟩
      obtain ⟨h5, h6⟩ := h2 i v' l' trivial hv' hl'
      exact ⟨h5, fun k hk => ⟨⟨(h6 k hk).1, (h6 k hk).2 j v trivial hi.symm hv⟩, fun i' v'' _ hne hv'' => (h6 k hk).2 i' v'' trivial hne hv''⟩⟩
  · exact List.pairwise_cons.2 ⟨fun e he => by
      rw [List.mem_singleton] at he
      subst he
      exact fun _ k hk hk2 => hk2.2 hk, List.pairwise_singleton _ _⟩
  · simp only [List.mem_cons, List.not_mem_nil, or_false] at he
    rcases he with rfl | rfl
    · exact ⟨_, List.mem_cons_self, (h4 k hk).1⟩
    · exact ⟨_, List.mem_cons_self, hk.1⟩
  · rw [List.mem_singleton] at he
    subst he
    right
    by_cases hk2 : v.ownBlock = some k
    · exact ⟨_, List.mem_cons_self, hk2⟩
    · exact ⟨_, List.mem_cons_of_mem _ List.mem_cons_self, hk, hk2⟩
/-- and put back -/
theorem LLs.put {v : Value} {l : List Int} {m : Nat} {xs : List Value} (hm : m = l.length) (hx : xs = l.map (.int κ)) (hh : Hp w0 w (.rep (fun w => (rowV 0 E 1 m xs).at_ w G v) G true :: .rep (fun w => (LLs E κ (fun i => i ≠ j) vs q).at_ w F (.bool true)) F true :: ol)) :
    Hp w0 w (.rep (fun w => (LLs E κ (fun _ => True) (vs.set j v) (q.set j l)).at_ w (fun k => F k ∨ G k) (.bool true)) (fun k => F k ∨ G k) true :: ol) := by
  subst hm hx
  obtain ⟨⟨h3, h4⟩, _, hlt1⟩ := hh.own _ (getE_mem (i := 0) rfl)
  obtain ⟨⟨h1, h2⟩, _, hlt2⟩ := hh.own _ (getE_mem (i := 1) rfl)
  have hap : (HE.rep (fun w => (rowV 0 E 1 l.length (l.map (.int κ))).at_ w G v) G true :: .rep (fun w => (LLs E κ (fun i => i ≠ j) vs q).at_ w F (.bool true)) F true :: ol).Pairwise Dis := hh.apart
  have hne : ∀ k, G k → ¬ F k := fun k hk hf => (List.pairwise_cons.1 hap).1 _ List.mem_cons_self rfl k hk hf
  have hset : ∀ {α : Type} (xs : List α) (x y : α) (i : Nat), (xs.set j x)[i]? = some y → (i = j ∧ x = y) ∨ (i ≠ j ∧ xs[i]? = some y) := fun xs x y i h => by
    by_cases e : j = i
    · subst e
      have := List.getElem?_eq_some_iff.1 h
      rw [List.getElem?_set_self (by have := this.1; rw [List.length_set] at this; exact this)] at h
      exact .inl ⟨rfl, Option.some.inj h⟩
    · rw [List.getElem?_set_ne e] at h
      exact .inr ⟨fun e' => e e'.symm, h⟩
  refine Hp.regroup [.rep (fun w => (rowV 0 E 1 l.length (l.map (.int κ))).at_ w G v) G true, .rep (fun w => (LLs E κ (fun i => i ≠ j) vs q).at_ w F (.bool true)) F true] [.rep (fun w => (LLs E κ (fun _ => True) (vs.set j v) (q.set j l)).at_ w (fun k => F k ∨ G k) (.bool true)) (fun k => F k ∨ G k) true] hh (fun e he => ?_) (fun e he => ?_) (List.pairwise_singleton _ _) (fun e he k hk => ?_) (fun e he k hk => ?_)
  · simp only [List.mem_cons, List.not_mem_nil, or_false] at he
    rcases he with rfl | rfl <;> rfl
  · rw [List.mem_singleton] at he
    subst he
    refine ⟨rfl, ⟨by rw [List.length_set, List.length_set]; exact h1, fun i v' l' _ hv' hl' => ?_⟩, Vp.loc (p := LLs E κ (fun _ => True) (vs.set j v) (q.set j l)), fun k hk => hk.elim (hlt2 k) (hlt1 k)⟩
    rcases hset _ _ _ _ hv' with ⟨rfl, rfl⟩ | ⟨hi, hv2⟩
    · rcases hset _ _ _ _ hl' with ⟨_, rfl⟩ | ⟨hi, _⟩
      · refine ⟨h3, fun k hk => ⟨.inr (h4 k hk), fun i' v' _ hi' hv' hk' => ?_⟩⟩
        rcases hset _ _ _ _ hv' with ⟨rfl, rfl⟩ | ⟨_, hv2⟩
        · exact hi' rfl
        · obtain ⟨l2, hl2⟩ : ∃ l2, q[i']? = some l2 := ⟨_, List.getElem?_eq_getElem (by rw [← h1]; exact (List.getElem?_eq_some_iff.1 hv2).1)⟩
          exact hne k (h4 k hk) ((h2 i' v' l2 hi' hv2 hl2).2 k hk').1
      · exact absurd rfl hi
    · rcases hset _ _ _ _ hl' with ⟨e, _⟩ | ⟨_, hl2⟩
      · exact absurd e hi
      · obtain ⟨h5, h6⟩ := h2 i v' l' hi hv2 hl2
        refine ⟨h5, fun k hk => ⟨.inl (h6 k hk).1, fun i' v'' _ hi' hv'' hk' => ?_⟩⟩
        rcases hset _ _ _ _ hv'' with ⟨rfl, rfl⟩ | ⟨hij, hv3⟩
        · exact hne k (h4 k hk') (h6 k hk).1
        · exact (h6 k hk).2 i' v'' hij hi' hv3 hk'
  · rw [List.mem_singleton] at he
    subst he
    rcases hk with hk | hk
    · exact ⟨_, List.mem_cons_of_mem _ List.mem_cons_self, hk⟩
    · exact ⟨_, List.mem_cons_self, hk⟩
  · simp only [List.mem_cons, List.not_mem_nil, or_false] at he
    rcases he with rfl | rfl
    · exact .inr ⟨_, List.mem_cons_self, .inr hk⟩
    · exact .inr ⟨_, List.mem_cons_self, .inl hk⟩
/-- read, with the row of which these are the cells -/
theorem LLs.slr {b c : Nat} {t : TypeId} {p : Nat × Nat} {A : Nat → Prop} {u : Value} (h : (LLs E κ (fun _ => True) vs q).at_ w F u) (hF : ∀ k, F k → A k) (hA : A b) (hb : w.heap[b]? = some (.cells ⟨vs⟩ t p)) (hp : p = (0, 0)) (hfit : ∀ l ∈ q, ∀ z ∈ l, Fits κ z) (hc : vs.length ≤ c) (hm : c ≤ maxLen) :
    SlR (Rslice (Rint κ)) w A (some ⟨b, 0, none⟩) q.length c q := by
  obtain ⟨h1, h2⟩ := h
  subst hp
  refine ⟨rfl, by omega, hm, (fun h => by cases h), ⟨vs.map fun v => [v], by rw [List.length_map]; exact h1, fun i cs l hcs hl => ?_, ?_⟩, fun _ => ⟨b, 0, rfl, hA⟩⟩
  · rw [List.getElem?_map] at hcs
    obtain ⟨v, hv, rfl⟩ := Option.map_eq_some_iff.1 hcs
    obtain ⟨h3, h4⟩ := h2 i v l trivial hv hl
    obtain ⟨a, cc, rfl, _⟩ := form_of_own h3
    exact ⟨a, l.length, cc, rfl, SlR.of_ints (ints_own h3 (hfit l (List.mem_of_getElem? hl))) fun b' off h0 e => by
      obtain ⟨g, _, e2, _⟩ := own_open h3 h0
      rw [e2] at e
      cases e
      exact hF _ (h4 _ (by rw [e2]; rfl)).1⟩
  · have e1 : (vs.map fun v => [v]).flatten = vs := by
      clear h1 h2 hc hb
      induction vs with
      | nil => rfl
      | cons v vs ih => rw [List.map_cons, List.flatten_cons, ih]; rfl
    rw [e1]
    exact Sl.of_blk (n := q.length) (sz := 1) (off := 0) (xs := vs) hb (by omega) (fun j u hu => by rw [Nat.zero_add]; exact hu)
end
end Go.Proofs.Yteogkadjambmkaa
