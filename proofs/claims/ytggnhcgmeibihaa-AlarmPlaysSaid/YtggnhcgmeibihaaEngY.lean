/-
  What a map with integer keys answers. No program's text; conditions: each theorem's own.
-/
import Derived.Test.YtggnhcgmeibihaaEngX
namespace Go.Proofs.Ytggnhcgmeibihaa
open Go Go.RowKit
set_option linter.unusedVariables false

def mGet (M : List ME) (k : Int) : Option Value := (mIdx k M 0).map (·.2)
theorem mIdx_shift (k : Int) : ∀ (M : List ME) (i : Nat), mIdx k M i = (mIdx k M 0).map fun p => (p.1 + i, p.2)
  | [], i => rfl
  | p :: M, i => by
    unfold mIdx
    split
    · simp
    · rw [mIdx_shift k M (i + 1), mIdx_shift k M (0 + 1), Option.map_map]
      congr 1
      funext q
      simp only [Function.comp, Prod.mk.injEq, and_true]
      omega
theorem mGet_nil (k : Int) : mGet [] k = none := rfl
theorem mGet_cons (k : Int) (p : ME) (M : List ME) : mGet (p :: M) k = if k = p.1 then some p.2.1 else mGet M k := by
  unfold mGet
  rw [mIdx]
  split
  · rfl
  · rw [mIdx_shift, Option.map_map]
    rfl
theorem mIdx_some {k : Int} {M : List ME} {i : Nat} {v : Value} (h : mIdx k M 0 = some (i, v)) : mGet M k = some v := by unfold mGet; rw [h]; rfl
theorem mIdx_none {k : Int} {M : List ME} (h : mIdx k M 0 = none) : mGet M k = none := by unfold mGet; rw [h]; rfl
theorem mGet_iff {M : List ME} (hn : (M.map (·.1)).Nodup) (k : Int) (v : Value) : mGet M k = some v ↔ ∃ p ∈ M, p.1 = k ∧ p.2.1 = v := by
  induction M with
  | nil => simp [mGet_nil]
  | cons p M ih =>
    rw [List.map_cons, List.nodup_cons] at hn
    rw [mGet_cons]
    by_cases h : k = p.1
    · rw [if_pos h]
      constructor
      · intro e
        cases e
        exact ⟨p, List.mem_cons_self, h.symm, rfl⟩
      · rintro ⟨q, hq, h1, h2⟩
        rcases List.mem_cons.1 hq with rfl | hq
        · rw [h2]
        · exact absurd (List.mem_map.2 ⟨q, hq, h1.trans h⟩) hn.1
    · rw [if_neg h, ih hn.2]
      constructor
      · rintro ⟨q, hq, h1⟩
        exact ⟨q, List.mem_cons_of_mem _ hq, h1⟩
      · rintro ⟨q, hq, h1, h2⟩
        rcases List.mem_cons.1 hq with rfl | hq
        · exact absurd h1.symm h
        · exact ⟨q, hq, h1, h2⟩
theorem mPut_cons (p : ME) (M : List ME) (k : Int) (v : Value) (c : Nat) : mPut (p :: M) k v c = if k = p.1 then ((k, v, p.2.2) :: M, c) else (p :: (mPut M k v c).1, (mPut M k v c).2) := by
  unfold mPut
  rw [mIdx]
  split
  · rename_i h
    split at h
    · rw [if_pos (by assumption)]
      cases h
      simp
    · rename_i hne
      rw [if_neg hne]
      rw [mIdx_shift] at h
      cases h2 : mIdx k M 0 with
      | none => rw [h2] at h; cases h
      | some q =>
        rw [h2] at h
        cases h
        simp
  · rename_i h
    split at h
    · cases h
    · rename_i hne
      rw [if_neg hne]
      rw [mIdx_shift] at h
      cases h2 : mIdx k M 0 with
      | none => rfl
      | some q => rw [h2] at h; cases h
theorem mPut_nil (k : Int) (v : Value) (c : Nat) : mPut [] k v c = ([(k, v, c)], c + 1) := rfl
theorem mGet_put (k : Int) (v : Value) (c : Nat) (k2 : Int) : ∀ (M : List ME), mGet (mPut M k v c).1 k2 = if k2 = k then some v else mGet M k2
  | [] => by rw [mPut_nil]; exact mGet_cons ..
  | p :: M => by
    rw [mPut_cons]
    by_cases h : k = p.1
    · rw [if_pos h]
      dsimp only
      rw [mGet_cons, mGet_cons]
      dsimp only
      by_cases h2 : k2 = k
      · rw [if_pos h2, if_pos h2]
      · rw [if_neg h2, if_neg h2, if_neg (by rw [← h]; exact h2)]
    · rw [if_neg h]
      dsimp only
      rw [mGet_cons, mGet_cons, mGet_put k v c k2 M]
      by_cases h2 : k2 = p.1
      · rw [if_pos h2, if_pos h2, if_neg (by rw [h2]; exact fun e => h e.symm)]
      · rw [if_neg h2, if_neg h2]
theorem mPut_keys (k : Int) (v : Value) (c : Nat) : ∀ (M : List ME), ((mPut M k v c).1).map (·.1) = if k ∈ M.map (·.1) then M.map (·.1) else M.map (·.1) ++ [k]
  | [] => rfl
  | p :: M => by
    rw [mPut_cons]
    by_cases h : k = p.1
    · rw [if_pos h, if_pos (by rw [h]; exact List.mem_cons_self)]
      rw [List.map_cons, List.map_cons, h]
    · rw [if_neg h]
      dsimp only
      rw [List.map_cons, List.map_cons, mPut_keys k v c M]
      by_cases h2 : k ∈ M.map (·.1)
      · rw [if_pos h2, if_pos (List.mem_cons_of_mem _ h2)]
      · rw [if_neg h2, if_neg (fun e => by
          rcases List.mem_cons.1 e with e | e
          · exact h e
          · exact h2 e)]
        rfl
theorem mPut_nodup {k : Int} {v : Value} {c : Nat} {M : List ME} (h : (M.map (·.1)).Nodup) : (((mPut M k v c).1).map (·.1)).Nodup := by
  rw [mPut_keys]
  split
  · exact h
  · rename_i hk
    rw [List.nodup_append]
    refine ⟨h, by simp, fun a ha b hb => ?_⟩
    rw [List.mem_singleton] at hb
    subst hb
    exact fun e => hk (e ▸ ha)
theorem mDel_cons (p : ME) (M : List ME) (k : Int) : mDel (p :: M) k = if k = p.1 then M else p :: mDel M k := by
  unfold mDel
  rw [mIdx]
  split
  · rename_i h
    split at h
    · rw [if_pos (by assumption)]
      cases h
      rfl
    · rename_i hne
      rw [if_neg hne]
      rw [mIdx_shift] at h
      cases h2 : mIdx k M 0 with
      | none => rw [h2] at h; cases h
      | some q =>
        rw [h2] at h
        cases h
        simp
  · rename_i h
    split at h
    · cases h
    · rename_i hne
      rw [if_neg hne]
      rw [mIdx_shift] at h
      cases h2 : mIdx k M 0 with
      | none => rfl
      | some q => rw [h2] at h; cases h
theorem mDel_nil (k : Int) : mDel [] k = [] := rfl
theorem mDel_keys (k : Int) : ∀ (M : List ME), (M.map (·.1)).Nodup → (mDel M k).map (·.1) = (M.map (·.1)).filter (fun x => decide (x ≠ k))
  | [], _ => rfl
  | p :: M, h => by
    rw [List.map_cons, List.nodup_cons] at h
    rw [mDel_cons]
    by_cases hk : k = p.1
    · rw [if_pos hk, List.map_cons, List.filter_cons_of_neg (by simp [hk])]
      rw [List.filter_eq_self.2]
      intro a ha
      simp only [ne_eq, decide_not, Bool.not_eq_eq_eq_not, Bool.not_true, decide_eq_false_iff_not]
      intro e
      exact h.1 (by rw [← hk, ← e]; exact ha)
    · rw [if_neg hk, List.map_cons, List.map_cons, List.filter_cons_of_pos (by simpa using fun e => hk e.symm), mDel_keys k M h.2]
theorem mDel_nodup {k : Int} {M : List ME} (h : (M.map (·.1)).Nodup) : ((mDel M k).map (·.1)).Nodup := by
  rw [mDel_keys k M h]
  exact h.sublist List.filter_sublist
theorem mGet_del (k k2 : Int) : ∀ (M : List ME), (M.map (·.1)).Nodup → mGet (mDel M k) k2 = if k2 = k then none else mGet M k2
  | [], _ => by rw [mDel_nil, mGet_nil]; split <;> rfl
  | p :: M, h => by
    rw [List.map_cons, List.nodup_cons] at h
    rw [mDel_cons, mGet_cons]
    by_cases hk : k = p.1
    · rw [if_pos hk]
      by_cases h2 : k2 = k
      · rw [if_pos h2]
        cases h3 : mGet M k2 with
        | none => rfl
        | some v =>
          obtain ⟨q, hq, h4, _⟩ := (mGet_iff h.2 k2 v).1 h3
          exact absurd (List.mem_map.2 ⟨q, hq, by rw [h4, h2, hk]⟩) h.1
      · rw [if_neg h2, if_neg (by rw [← hk]; exact h2)]
    · rw [if_neg hk, mGet_cons, mGet_del k k2 M h.2]
      by_cases h2 : k2 = p.1
      · rw [if_pos h2, if_pos h2, if_neg (by rw [h2]; exact fun e => hk e.symm)]
      · rw [if_neg h2, if_neg h2]
theorem mGet_mem {M : List ME} {k : Int} : mGet M k = none ↔ k ∉ M.map (·.1) := by
  induction M with
  | nil => simp [mGet_nil]
  | cons p M ih =>
    rw [mGet_cons, List.map_cons, List.mem_cons, not_or]
    by_cases h : k = p.1
    · simp [h]
    · rw [if_neg h, ih]
      exact ⟨fun e => ⟨h, e⟩, fun e => e.2⟩
end Go.Proofs.Ytggnhcgmeibihaa
