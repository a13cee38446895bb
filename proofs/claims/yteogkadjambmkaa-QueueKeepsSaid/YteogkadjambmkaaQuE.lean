/-
  A queue's Bytes, Class. Conditions: each theorem's own.
-/
import Derived.Test.YteogkadjambmkaaQuD
namespace Go.Proofs.Yteogkadjambmkaa
open Go Go.RowKit
set_option linter.unusedVariables false

theorem bsum_nn (L : List QE) (c : Nat) : 0 ≤ bsum L c ∧ bsum L c ≤ ((L.map sizeQ).sum) := by
  unfold bsum
  induction L with
  | nil => exact ⟨Int.le_refl _, Int.le_refl _⟩
  | cons x L ih =>
    have hx : 0 ≤ sizeQ x := by unfold sizeQ; omega
    rw [List.filter_cons]
    split
    · simp only [List.map_cons, List.sum_cons]
      omega
    · simp only [List.map_cons, List.sum_cons]
      omega
theorem size_sum (L : List QE) (h : ∀ x ∈ L, x.2.2.length ≤ 4096) : 0 ≤ (L.map sizeQ).sum ∧ (L.map sizeQ).sum ≤ (L.length : Int) * 4112 := by
  induction L with
  | nil => exact ⟨Int.le_refl _, by simp⟩
  | cons x L ih =>
    have h1 := h x List.mem_cons_self
    have h2 := ih fun y hy => h y (List.mem_cons_of_mem _ hy)
    have hx : sizeQ x = (x.2.2.length : Int) + 16 := rfl
    simp only [List.map_cons, List.sum_cons, List.length_cons]
    omega
/-- All classes' bytes are all sizes. -/
theorem bsum_all (n : Nat) : ∀ (L : List QE), (∀ x ∈ L, 0 ≤ x.2.1 ∧ x.2.1 < (n : Int)) → ((List.range n).map (bsum L)).sum = (L.map sizeQ).sum
  | [], _ => by
    have : ∀ k : Nat, ((List.range k).map (bsum [])).sum = 0 := fun k => by
      induction k with
      | zero => rfl
      | succ k ih => rw [List.range_succ, List.map_append, List.sum_append, ih]; rfl
    rw [this]; rfl
  | x :: L, h => by
    have ih := bsum_all n L fun y hy => h y (List.mem_cons_of_mem _ hy)
    have hx := h x List.mem_cons_self
    have e1 : ∀ c : Nat, bsum (x :: L) c = (if x.2.1 = (c : Int) then sizeQ x else 0) + bsum L c := fun c => by
      unfold bsum
      rw [List.filter_cons]
      by_cases hc : x.2.1 = (c : Int)
      · rw [if_pos (by simp [hc]), if_pos hc, List.map_cons, List.sum_cons]
      · rw [if_neg (by simp [hc]), if_neg hc, Int.zero_add]
    have e2 : ∀ k : Nat, ((List.range k).map (bsum (x :: L))).sum = (if x.2.1 < (k : Int) then sizeQ x else 0) + ((List.range k).map (bsum L)).sum := fun k => by
      induction k with
      | zero => rw [if_neg (by omega)]; rfl
      | succ k ih2 =>
        rw [List.range_succ, List.map_append, List.map_append, List.sum_append, List.sum_append, ih2]
        simp only [List.map_cons, List.map_nil, List.sum_cons, List.sum_nil, e1]
        by_cases hk : x.2.1 < (k : Int)
        · rw [if_pos hk, if_neg (by omega), if_pos (by omega)]; omega
        · by_cases hk2 : x.2.1 = (k : Int)
          · rw [if_neg hk, if_pos hk2, if_pos (by omega)]; omega
          · rw [if_neg hk, if_neg hk2, if_neg (by omega)]; omega
    rw [e2, if_pos hx.2, ih, List.map_cons, List.sum_cons]
section
variable {qb : Nat} {cap last : Int} {ws : List Int} {L : List QE} {K : Nat} {w : World} {F : Nat → Prop}
theorem QuS.bcell {mb c : Nat} {bys s : List Int} {M : List ME} {wv lv bv : Value} (h : QuS qb mb cap last ws bys s M c L wv lv bv w F) {i : Nat} (hi : i < bys.length) : ∃ g cc, bv = .slice (some ⟨g, 0, none⟩) bys.length cc ∧ bys.length ≤ cc ∧ w.cell? ⟨g, 0 + i, none⟩ = some (.int .i64 bys[i]) := by
  have h2 := h.bs
  obtain ⟨a, cc, rfl, h3, _⟩ := form_of_own h2
  obtain ⟨g, junk, rfl, _⟩ := own_open h2 (by omega)
  refine ⟨g, cc, rfl, h3, ?_⟩
  rw [Nat.zero_add]
  exact own_cell h2 (by omega) (by rw [List.getElem?_map, List.getElem?_eq_getElem hi]; rfl)
set_option maxHeartbeats 1000000 in
theorem q_bytes (h : (quA qb cap last ws L K).at_ w F (.bool true)) (hok : QOk cap last ws L) (hn : L.length ≤ 1048576) (hw8 : ws.length ≤ 8) : Calls Try.prog 37 #[qptr qb] w fun e w' => e = .returned (.int .i64 (L.map sizeQ).sum) ∧ Below w.heap.size w w' := by
  obtain ⟨mb, bys, s, M, c, wv, lv, bv, hS, _, hbys, _⟩ := h
  have hall := bsum_all ws.length L fun x hx => ⟨(hok.cls x hx).1, (hok.cls x hx).2.1⟩
  have hsz := size_sum L fun x hx => (hok.cls x hx).2.2.2
  have hbl : bys.length = ws.length := by rw [hbys]; simp
  have hbb : ∀ x ∈ bys, 0 ≤ x ∧ x ≤ 8589934592 := fun x hx => by
    rw [hbys] at hx
    obtain ⟨k, _, rfl⟩ := List.mem_map.1 hx
    have := bsum_nn L k
    omega
  obtain ⟨F2, hst⟩ := Hp.startR (p := quV qb mb cap last ws bys s M c L wv lv bv) (v := .bool true) hS
  refine enter1 Try.func37 rfl rfl hst ?_
  repeat (first | refine T_seq ?_ | refine T_region ?_ | refine S_nil ?_ | refine S_pure tabOk rfl ?_)
  refine S_q (Q_eqptr tabOk rfl rfl rfl rfl rfl) ?_
  repeat (first | refine T_seq ?_ | refine T_region ?_ | refine S_nil ?_ | refine pthen_normal ?_ | refine T_skip ?_ | refine T_cond_f rfl ?_ | refine S_pure tabOk rfl ?_)
  refine S_load1 tabOk (v := bv) rfl rfl (fun w' hw => QuS.cell (hw.own _ (getE_mem (i := 0) rfl)).1 (j := 4) rfl) ?_
  obtain ⟨a, cc, rfl, _⟩ := form_of_own hS.bs
  repeat (first | refine T_block ?_ | refine S_nil ?_ | refine S_pure tabOk rfl ?_)
  have hsm : ∀ k, 0 ≤ (bys.take k).sum ∧ (bys.take k).sum ≤ (k : Int) * 8589934592 := fun k => by
    induction k with
    | zero => simp
    | succ k ih =>
      by_cases hk : k < bys.length
      · rw [List.take_succ_eq_append_getElem hk, List.sum_append]
        have := hbb bys[k] (List.getElem_mem hk)
        simp only [List.sum_cons, List.sum_nil]
        omega
      · rw [List.take_of_length_le (by omega)] at ih ⊢
        omega
  refine T_loop (ι := Nat) (fun i => [(11, .slice a bys.length cc), (12, .int .i64 (bys.length : Int)), (13, .int .i64 (i : Int)), (3, .int .i64 (bys.take i).sum)]) (fun _ => [.rep (fun w => (quV qb mb cap last ws bys s M c L wv lv (.slice a bys.length cc)).at_ w F2 (.bool true)) F2 false]) (fun i => i ≤ bys.length) (fun i => bys.length - i) 0 (Nat.zero_le _) (by repeat (first | exact Sub.nil | refine Sub.cons rfl ?_)) (fun _ hw => hw) ?_
  rintro k hk
  try dsimp only at hk ⊢
  have hk1 := hsm k
  repeat (first | refine T_seq ?_ | refine T_region ?_ | refine S_nil ?_ | refine S_pure tabOk rfl ?_)
  refine T_cond_dec rfl (fun hlt => ?_) (fun hlt => ?_)
  · have hkl : k < bys.length := by omega
    obtain ⟨g, cc', e1, _, _⟩ := hS.bcell hkl
    cases e1
    have hx := hbb bys[k] (List.getElem_mem hkl)
    repeat (first | refine T_seq ?_ | refine T_region ?_ | refine T_block ?_ | refine pthen_normal ?_ | refine T_skip ?_)
    refine S_q (Q_idx1 tabOk rfl rfl rfl rfl rfl rfl rfl (j := k) rfl (by omega)) ?_
    refine S_load1 tabOk (v := .int .i64 bys[k]) rfl rfl (fun w' hw => by
      obtain ⟨g', cc', e1, _, h9⟩ := QuS.bcell (hw.own _ (getE_mem (i := 0) rfl)).1 hkl
      cases e1
      exact h9) ?_
    repeat (first | refine T_region ?_ | refine S_nil ?_ | refine pthen_normal ?_ | refine inb_normal ?_ | refine S_i64 tabOk rfl (by omega) ?_ | refine S_pure tabOk rfl ?_ | refine T_region_any ?_)
    exact ⟨k + 1, by omega, by
      rw [show (bys.take (k + 1)).sum = (bys.take k).sum + bys[k] by rw [List.take_succ_eq_append_getElem hkl, List.sum_append]; simp]
      repeat (first | exact Sub.nil | refine Sub.cons rfl ?_), fun _ h => h, by omega⟩
  · have hkl : k = bys.length := by omega
    subst hkl
    repeat (first | refine T_seq ?_ | refine T_region ?_ | refine S_nil ?_ | refine pthen_normal ?_ | refine inb_hit ?_ | refine pthen_exit ?_ | refine T_ret ?_ | refine T_exit ?_ | refine S_pure tabOk rfl ?_)
    exact ret1 rfl rfl (fun w' hw => ⟨by rw [List.take_of_length_le (Nat.le_refl _), hbys, hall], hw.below (by repeat (first | exact new_nil | refine new_ro ?_))⟩)
theorem q_bytes0 (w : World) : Calls Try.prog 37 #[.pointer none] w fun e w' => e = .returned (.int .i64 0) ∧ Below w.heap.size w w' := by
  refine enter1 Try.func37 rfl rfl (Hp.refl w) ?_
  repeat (first | refine T_seq ?_ | refine T_region ?_ | refine S_nil ?_ | refine S_pure tabOk rfl ?_)
  refine S_q (Q_eqptr tabOk rfl rfl rfl rfl rfl) ?_
  repeat (first | refine T_seq ?_ | refine T_region ?_ | refine S_nil ?_ | refine pthen_ret ?_ | refine T_ret ?_ | refine T_cond_t rfl ?_ | refine S_pure tabOk rfl ?_)
  exact ret1 rfl rfl (fun w' hw => ⟨rfl, hw.below new_nil⟩)
end
end Go.Proofs.Yteogkadjambmkaa
