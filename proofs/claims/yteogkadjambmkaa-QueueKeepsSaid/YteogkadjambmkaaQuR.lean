/-
  A queue's Victims: who may go, by classes. Conditions: each theorem's own.
-/
import Derived.Test.YteogkadjambmkaaQuQ
import Derived.Test.YteogkadjambmkaaPlL
namespace Go.Proofs.Yteogkadjambmkaa
open Go Go.RowKit
set_option linter.unusedVariables false

def ofC (L : List QE) (c : Nat) : List QE := L.filter fun x => decide (x.2.1 = (c : Int))
/-- each class's sizes, each class's numbers -/
def szs (L : List QE) (n : Nat) : List (List Int) := (List.range n).map fun c => (ofC L c).map sizeQ
def nms (L : List QE) (n : Nat) : List (List Int) := (List.range n).map fun c => (ofC L c).map (·.1)
theorem ofC_snoc (L : List QE) (x : QE) (c : Nat) : ofC (L ++ [x]) c = ofC L c ++ (if x.2.1 = (c : Int) then [x] else []) := by
  unfold ofC
  rw [List.filter_append]
  by_cases h : x.2.1 = (c : Int)
  · rw [if_pos h, List.filter_cons_of_pos (by simp [h])]; rfl
  · rw [if_neg h, List.filter_cons_of_neg (by simp [h])]; rfl
theorem rng_set {α : Type} {f g : Nat → α} {n k : Nat} (hk : k < n) {v : α} (hv : g k = v) (h : ∀ c, c ≠ k → g c = f c) : ((List.range n).map f).set k v = (List.range n).map g := by
  refine List.ext_getElem? fun i => ?_
  by_cases hi : i < n
  · by_cases e : k = i
    · subst e
      rw [List.getElem?_set_self (by simpa using hk)]
      simp [hi, hv]
    · rw [List.getElem?_set_ne e]
      simp [hi, h i (fun e' => e e'.symm)]
  · rw [List.getElem?_eq_none (by simp; omega), List.getElem?_eq_none (by simp; omega)]
theorem szs_at {L : List QE} {n c : Nat} (hc : c < n) : (szs L n)[c]? = some ((ofC L c).map sizeQ) := by simp [szs, hc]
theorem nms_at {L : List QE} {n c : Nat} (hc : c < n) : (nms L n)[c]? = some ((ofC L c).map (·.1)) := by simp [nms, hc]
theorem szs_snoc {L : List QE} {x : QE} {n c : Nat} (hc : c < n) (hx : x.2.1 = (c : Int)) : (szs L n).set c ((ofC L c).map sizeQ ++ [sizeQ x]) = szs (L ++ [x]) n := by
  refine rng_set hc ?_ fun d hd => ?_
  · rw [ofC_snoc, if_pos hx, List.map_append]; rfl
  · rw [ofC_snoc, if_neg (by omega), List.append_nil]
theorem nms_snoc {L : List QE} {x : QE} {n c : Nat} (hc : c < n) (hx : x.2.1 = (c : Int)) : (nms L n).set c ((ofC L c).map (·.1) ++ [x.1]) = nms (L ++ [x]) n := by
  refine rng_set hc ?_ fun d hd => ?_
  · rw [ofC_snoc, if_pos hx, List.map_append]; rfl
  · rw [ofC_snoc, if_neg (by omega), List.append_nil]
theorem szs_nil (n : Nat) : szs [] n = List.replicate n [] := by
  refine List.eq_replicate_iff.2 ⟨by simp [szs], fun l hl => ?_⟩
  obtain ⟨c, _, rfl⟩ := List.mem_map.1 hl
  rfl
theorem nms_nil (n : Nat) : nms [] n = List.replicate n [] := by
  refine List.eq_replicate_iff.2 ⟨by simp [nms], fun l hl => ?_⟩
  obtain ⟨c, _, rfl⟩ := List.mem_map.1 hl
  rfl
theorem szs_len (L : List QE) (n : Nat) : (szs L n).length = n := by simp [szs]
theorem nms_len (L : List QE) (n : Nat) : (nms L n).length = n := by simp [nms]
theorem ofC_cons (x : QE) (L : List QE) (c : Nat) : (ofC (x :: L) c).length = (if x.2.1 = (c : Int) then 1 else 0) + (ofC L c).length := by
  unfold ofC
  by_cases h : x.2.1 = (c : Int)
  · rw [if_pos h, List.filter_cons_of_pos (by simp [h]), List.length_cons]; omega
  · rw [if_neg h, List.filter_cons_of_neg (by simp [h])]; omega
theorem ofC_all (n : Nat) : ∀ (L : List QE), ((List.range n).map fun c => (ofC L c).length).sum ≤ L.length
  | [] => by
    have : ∀ k : Nat, ((List.range k).map fun c => (ofC [] c).length).sum = 0 := fun k => by
      induction k with
      | zero => rfl
      | succ k ih => rw [List.range_succ, List.map_append, List.sum_append, ih]; rfl
    rw [this]; exact Nat.le_refl _
  | x :: L => by
    have ih := ofC_all n L
    have e2 : ∀ k : Nat, ((List.range k).map fun c => (ofC (x :: L) c).length).sum = (if 0 ≤ x.2.1 ∧ x.2.1 < (k : Int) then 1 else 0) + ((List.range k).map fun c => (ofC L c).length).sum := fun k => by
      induction k with
      | zero => rw [if_neg (by omega)]; rfl
      | succ k ih2 =>
        rw [List.range_succ, List.map_append, List.map_append, List.sum_append, List.sum_append, ih2]
        simp only [List.map_cons, List.map_nil, List.sum_cons, List.sum_nil, ofC_cons]
        by_cases hk : 0 ≤ x.2.1 ∧ x.2.1 < (k : Int)
        · rw [if_pos hk, if_neg (by omega), if_pos (by omega)]; omega
        · by_cases hk2 : x.2.1 = (k : Int)
          · rw [if_neg hk, if_pos hk2, if_pos (by omega)]; omega
          · rw [if_neg hk, if_neg hk2, if_neg (by omega)]; omega
    rw [e2, List.length_cons]
    split <;> omega
theorem szs_flat (L : List QE) (n : Nat) : (szs L n).flatten.length ≤ L.length := by
  rw [List.length_flatten]
  unfold szs
  rw [List.map_map]
  refine Nat.le_trans (Nat.le_of_eq ?_) (ofC_all n L)
  congr 1
  refine List.map_congr_left fun c _ => ?_
  simp
theorem szs_mem {L : List QE} {n : Nat} {x : Int} (h : x ∈ (szs L n).flatten) : ∃ y ∈ L, x = sizeQ y := by
  obtain ⟨l, hl, hx⟩ := List.mem_flatten.1 h
  obtain ⟨c, _, rfl⟩ := List.mem_map.1 hl
  obtain ⟨y, hy, rfl⟩ := List.mem_map.1 hx
  exact ⟨y, (List.mem_filter.1 hy).1, rfl⟩
theorem PlanR.place {cap : Int} {ws : List Int} {left : List (List Int)} {went : List Nat} {total : Int} {out : List (Nat × Nat)} (h : PlanR cap ws left went total out) : left.length = went.length → ∀ v ∈ out, v.1 < left.length ∧ v.2 < went.getD v.1 0 + (left.getD v.1 []).length := by
  induction h with
  | stop h => exact fun _ v hv => by cases hv
  | @step left went total c x xs out h hb hx hk ih =>
    intro hl v hv
    have hc : c < left.length := by
      rcases Nat.lt_or_ge c left.length with h1 | h1
      · exact h1
      · rw [List.getD_eq_getElem?_getD, List.getElem?_eq_none h1] at hx
        cases hx
    rcases List.mem_cons.1 hv with rfl | hv
    · refine ⟨hc, ?_⟩
      rw [hx]
      simp
    · obtain ⟨h1, h2⟩ := ih (by simp [hl]) v hv
      rw [List.length_set] at h1
      refine ⟨h1, ?_⟩
      by_cases e : c = v.1
      · subst e
        rw [hx]
        simp only [List.getD_eq_getElem?_getD] at h2 ⊢
        rw [List.getElem?_set_self (by omega), List.getElem?_set_self hc] at h2
        simp only [Option.getD_some, List.length_cons] at h2 ⊢
        omega
      · simp only [List.getD_eq_getElem?_getD] at h2 ⊢
        rw [List.getElem?_set_ne e, List.getElem?_set_ne e] at h2
        exact h2
/-- one of the plan: who goes, of these numbers; itself goes -/
def vStep (b : List (List Int)) (y : List Int × Bool) (v : Nat × Nat) : List Int × Bool :=
  if v.2 = (b.getD v.1 []).length then (y.1, true) else (y.1 ++ [(b.getD v.1 []).getD v.2 0], y.2)
def vOut (b : List (List Int)) (pl : List (Nat × Nat)) : List Int × Bool := pl.foldl (vStep b) ([], false)
def VicR (cap : Int) (ws : List Int) (L : List QE) (k size : Int) (o : List Int × Bool) : Prop := ∃ pl, PlanR cap ws (left0 (szs L ws.length) k size) (List.replicate ws.length 0) ((szs L ws.length).flatten.sum + size) pl ∧ o = vOut (nms L ws.length) pl
/-- Victims: who goes, itself, the error -/
def VicP (cap : Int) (ws : List Int) (L : List QE) (k : Int) (n : Nat) (o : List Int × Bool) (E : Int) : Prop :=
  if (sright k n && decide (k < (ws.length : Int))) = true then
    if cap < (n : Int) + 16 then o = ([], false) ∧ E = 6 else E = 0 ∧ VicR cap ws L k ((n : Int) + 16) o
  else o = ([], false) ∧ E = 1
theorem vOut_step {b : List (List Int)} {pl : List (Nat × Nat)} {i : Nat} {v : Nat × Nat} (h : pl[i]? = some v) : vOut b (pl.take (i + 1)) = vStep b (vOut b (pl.take i)) v := by
  have hi := (List.getElem?_eq_some_iff.1 h).1
  rw [List.take_succ_eq_append_getElem hi]
  rw [List.getElem?_eq_getElem hi] at h
  rw [Option.some.inj h]
  unfold vOut
  rw [List.foldl_append]
  rfl
theorem vOut_len (b : List (List Int)) (pl : List (Nat × Nat)) : (vOut b pl).1.length ≤ pl.length := by
  have : ∀ (pl : List (Nat × Nat)) (y : List Int × Bool), (pl.foldl (vStep b) y).1.length ≤ y.1.length + pl.length := by
    intro pl
    induction pl with
    | nil => exact fun y => Nat.le_refl _
    | cons v pl ih =>
      intro y
      rw [List.foldl_cons]
      refine Nat.le_trans (ih _) ?_
      unfold vStep
      split
      · simp only [List.length_cons]; omega
      · simp only [List.length_append, List.length_cons, List.length_nil]; omega
  have h := this pl ([], false)
  simpa [vOut] using h
end Go.Proofs.Yteogkadjambmkaa
