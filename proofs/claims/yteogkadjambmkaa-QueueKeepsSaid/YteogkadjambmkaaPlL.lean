/-
  Plain laws of share's plan (of XShM, without small). Conditions: each theorem's own.
-/
import Derived.Test.YteogkadjambmkaaSh
namespace Go.Proofs.Yteogkadjambmkaa
open Go Go.RowKit
set_option linter.unusedVariables false

structure LOk (cap : Int) (ws : List Int) (left : List (List Int)) (total : Int) : Prop where
  sum : left.flatten.sum = total
  nn : ∀ x ∈ left.flatten, 0 ≤ x ∧ x ≤ 1048576
  len : left.length = ws.length
  r : rightW ws
  c0 : 0 ≤ cap
section
variable {cap : Int} {ws : List Int} {left : List (List Int)} {went : List Nat} {total : Int}
theorem LOk.step (h : LOk cap ws left total) {c : Nat} {x : Int} {xs : List Int} (hx : left.getD c [] = x :: xs) : LOk cap ws (left.set c xs) (total - x) := by
  obtain ⟨h1, h2, h3, h4⟩ := flat_set hx
  exact ⟨by have := h.sum; omega, fun y hy => h.nn y (h3 y hy), by rw [List.length_set]; exact h.len, h.r, h.c0⟩
theorem rightW_pos (h : rightW ws) : 0 < ws.sum := by
  obtain ⟨h1, h2, h3⟩ := h
  cases ws with
  | nil => exact absurd h1 (by decide)
  | cons w ws =>
    have := h3 w List.mem_cons_self
    have := (sum_bnd (B := 1000) (by decide) (l := ws) fun x hx => by have := h3 x (List.mem_cons_of_mem _ hx); omega).1
    rw [List.sum_cons]
    omega
theorem LOk.part (h : LOk cap ws left total) (hn : ∀ d, exL cap ws left d ≤ 0) : ∀ i, i ≤ ws.length → (left.take i).flatten.sum * ws.sum - cap * (ws.take i).sum ≤ 0
  | 0, _ => by simp
  | i + 1, hi => by
    have h1 := LOk.part h hn i (by omega)
    have hil : i < left.length := by rw [h.len]; omega
    have h2 := hn i
    unfold exL excS at h2
    rw [List.getD_eq_getElem?_getD, List.getElem?_eq_getElem hil, List.getD_eq_getElem?_getD, List.getElem?_eq_getElem (show i < ws.length by omega)] at h2
    have h2 : left[i].sum * ws.sum - cap * ws[i] ≤ 0 := h2
    rw [rows_take hil, List.sum_append, sum_take (show i < ws.length by omega), Int.add_mul, Int.mul_add]
    omega
theorem LOk.pos (h : LOk cap ws left total) (ht : cap < total) {c : Nat} (hb : Best cap ws left c) : 0 < exL cap ws left c := by
  rcases Int.lt_or_le 0 (exL cap ws left c) with h1 | h1
  · exact h1
  · exfalso
    have hall : ∀ d, exL cap ws left d ≤ 0 := fun d => by
      by_cases hd : left.getD d [] = []
      · unfold exL excS
        rw [hd, List.sum_nil, Int.zero_mul]
        have h2 : 0 ≤ ws.getD d 0 := by
          rw [List.getD_eq_getElem?_getD]
          rcases Nat.lt_or_ge d ws.length with h3 | h3
          · rw [List.getElem?_eq_getElem h3]
            have := h.r.2.2 _ (List.getElem_mem h3)
            show 0 ≤ ws[d]
            omega
          · rw [List.getElem?_eq_none h3]; exact Int.le_refl _
        have := Int.mul_nonneg h.c0 h2
        omega
      · have := hb.2 d hd
        omega
    have h2 := h.part hall ws.length (Nat.le_refl _)
    rw [List.take_length, ← h.len, List.take_length, h.sum, ← Int.sub_mul] at h2
    have h3 := Int.mul_pos (show 0 < total - cap by omega) (rightW_pos h.r)
    omega
theorem exL_set (h : LOk cap ws left total) {c : Nat} {x : Int} {xs : List Int} (hx : left.getD c [] = x :: xs) (d : Nat) : exL cap ws (left.set c xs) d ≤ exL cap ws left d := by
  have hc : c < left.length := getD_lt (by rw [hx]; exact List.cons_ne_nil _ _)
  unfold exL
  rw [getD_set _ _ _ _ _ hc]
  by_cases hd : d = c
  · subst hd
    rw [if_pos rfl, hx, List.sum_cons]
    unfold excS
    rw [Int.add_mul]
    have h1 := h.nn x (flat_set hx).2.2.2
    have := Int.mul_nonneg h1.1 (rightW_sum h.r).1
    omega
  · rw [if_neg hd]
    exact Int.le_refl _
theorem PlanR.calm {out : List (Nat × Nat)} (hp : PlanR cap ws left went total out) : LOk cap ws left total → ∀ i, exL cap ws left i ≤ 0 → ∀ v ∈ out, v.1 ≠ i := by
  induction hp with
  | stop h => intro _ i _ v hv; cases hv
  | step h hb hx hk ih =>
    intro hl i hi v hv
    rcases List.mem_cons.1 hv with rfl | hv
    · intro hc
      dsimp only at hc
      subst hc
      have := hl.pos h hb
      omega
    · exact ih (hl.step hx) i (by have := exL_set hl hx i; omega) v hv
theorem PlanR.cls {out : List (Nat × Nat)} (hp : PlanR cap ws left went total out) : ∀ v ∈ out, v.1 < left.length := by
  induction hp with
  | stop h => intro v hv; cases hv
  | step h hb hx hk ih =>
    intro v hv
    rcases List.mem_cons.1 hv with rfl | hv
    · exact getD_lt hb.1
    · have := ih v hv
      rwa [List.length_set] at this
theorem PlanR.len_le {out : List (Nat × Nat)} (hp : PlanR cap ws left went total out) : out.length ≤ left.flatten.length := by
  induction hp with
  | stop h => exact Nat.zero_le _
  | step h hb hx hk ih =>
    have := (flat_set hx).1
    rw [List.length_cons]
    omega
end
theorem LOk.start {cap size : Int} {ws : List Int} {q : List (List Int)} {k : Nat} (hf : fitsP cap ws q (k : Int) size) : LOk cap ws (left0 q (k : Int) size) (q.flatten.sum + size) := by
  obtain ⟨h1, h2, h3, h4, h5, h6, h7, h8, h9, h10⟩ := hf
  obtain ⟨g1, g2, g3, g4, g5, g6⟩ := left0_facts (q := q) (k := k) (size := size) (by omega)
  exact ⟨g5, fun x hx => (g6 x hx).elim (h9 x) (fun h => by omega), by rw [g1, h2], h1, by omega⟩
theorem PlanR.cons_inv {cap : Int} {ws : List Int} {left : List (List Int)} {went : List Nat} {total : Int} {v : Nat × Nat} {out : List (Nat × Nat)} (h : PlanR cap ws left went total (v :: out)) : ∃ x xs, cap < total ∧ Best cap ws left v.1 ∧ left.getD v.1 [] = x :: xs ∧ v.2 = went.getD v.1 0 ∧ PlanR cap ws (left.set v.1 xs) (went.set v.1 (went.getD v.1 0 + 1)) (total - x) out := by
  cases h with
  | step h1 h2 h3 h4 => exact ⟨_, _, h1, h2, h3, rfl, h4⟩
theorem PlanR.nil_inv {cap : Int} {ws : List Int} {left : List (List Int)} {went : List Nat} {total : Int} (h : PlanR cap ws left went total []) : total ≤ cap := by
  cases h with
  | stop h => exact h
theorem PlanR.nil_iff {cap : Int} {ws : List Int} {left : List (List Int)} {went : List Nat} {total : Int} {out : List (Nat × Nat)} (h : PlanR cap ws left went total out) : out.length = 0 ↔ total ≤ cap := by
  cases h with
  | stop h => exact ⟨fun _ => h, fun _ => rfl⟩
  | step h1 h2 h3 h4 => exact ⟨fun h => (by cases h), fun h => by omega⟩
/-- what has gone, of each class -/
def Gone (L0 left : List (List Int)) (went : List Nat) : Prop := went.length = left.length ∧ ∀ d, left.getD d [] = (L0.getD d []).drop (went.getD d 0)
theorem Gone.start {L0 : List (List Int)} {n : Nat} (h : L0.length = n) : Gone L0 L0 (List.replicate n 0) :=
  ⟨by rw [List.length_replicate, h], fun d => by
    have : (List.replicate n 0).getD d 0 = 0 := by rw [List.getD_eq_getElem?_getD, List.getElem?_replicate]; split <;> rfl
    rw [this, List.drop_zero]⟩
theorem Gone.step {L0 left : List (List Int)} {went : List Nat} (h : Gone L0 left went) {c : Nat} {x : Int} {xs : List Int} (hx : left.getD c [] = x :: xs) : Gone L0 (left.set c xs) (went.set c (went.getD c 0 + 1)) ∧ (L0.getD c [])[went.getD c 0]? = some x := by
  have hc : c < left.length := getD_lt (by rw [hx]; exact List.cons_ne_nil _ _)
  have h1 := h.2 c
  rw [hx] at h1
  refine ⟨⟨by rw [List.length_set, List.length_set]; exact h.1, fun d => ?_⟩, ?_⟩
  · rw [getD_set _ _ _ _ _ hc, getD_set _ _ _ _ _ (by rw [h.1]; exact hc)]
    by_cases hd : d = c
    · rw [if_pos hd, if_pos hd, hd, ← List.tail_drop, ← h1]
      rfl
    · rw [if_neg hd, if_neg hd]
      exact h.2 d
  · have h2 : ((L0.getD c []).drop (went.getD c 0))[0]? = some x := by rw [← h1]; rfl
    rw [List.getElem?_drop, Nat.add_zero] at h2
    exact h2
theorem vcells_get {out : List (Nat × Nat)} {i : Nat} {v : Nat × Nat} (hv : out[i]? = some v) {j : Nat} {u : Value} (hu : [Value.int .i64 (v.1 : Int), .int .i64 (v.2 : Int)][j]? = some u) : (vcells out)[i * 2 + j]? = some u :=
  flat_get (css := out.map fun p => [Value.int .i64 (p.1 : Int), Value.int .i64 (p.2 : Int)]) (fun c hc => by
    obtain ⟨p, _, rfl⟩ := List.mem_map.1 hc
    rfl) (by rw [List.getElem?_map, hv]; rfl) hu
end Go.Proofs.Yteogkadjambmkaa
