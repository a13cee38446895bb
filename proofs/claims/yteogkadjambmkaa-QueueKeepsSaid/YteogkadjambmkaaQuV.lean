/-
  The queue laws' few and weights. Conditions: each theorem's own.
-/
import Derived.Test.YteogkadjambmkaaQuT
namespace Go.Proofs.Yteogkadjambmkaa
open Go Go.RowKit
set_option linter.unusedVariables false

set_option maxHeartbeats 2000000 in
theorem few9_ok (k : Int) (a : Option Addr) (n c : Nat) (zs : List Int) (w : World) (hI : Ints .u8 w a n c zs) :
    Calls Try.prog 28 #[.agg #[.int .i64 k, .slice a n c]] w fun e w' => ∃ a2 c2, e = .returned (.agg ⟨[.int .i64 k, .slice a2 (zs.take 60).length c2]⟩) ∧ Below w.heap.size w w' ∧ w'.ownsRow w.heap.size 5 1 (.slice a2 (zs.take 60).length c2) (zs.take 60).length ((zs.take 60).map (.int .u8)) := by
  obtain rfl := hI.len
  refine enter1 Try.func28 rfl rfl (Hp.refl w) ?_
  repeat (first | refine T_seq ?_ | refine T_region ?_)
  refine S_new tabOk rfl (fun b1 hb1 => ?_)
  refine S_new tabOk rfl (fun b2 hb2 => ?_)
  repeat (first | refine T_seq ?_ | refine T_region ?_ | refine S_nil ?_ | refine S_pure tabOk rfl ?_ | refine S_load tabOk 1 rfl rfl rfl ?_)
  refine S_callrow rfl Try.call53 (fun w1 h1 => cut_ok a zs.length c zs 60 w1 (ints_ext hI (h1.below (by repeat (first | exact new_nil | refine new_cons (by first | assumption | omega) ?_)))) (by decide)) (fun a2 c2 hc2 hd2 => ?_)
  repeat (first | refine T_seq ?_ | refine T_region ?_ | refine S_nil ?_ | refine T_ret ?_ | refine S_pure tabOk rfl ?_ | refine S_load tabOk 2 rfl rfl rfl ?_ | refine S_store tabOk 1 rfl rfl rfl rfl rfl rfl ?_ | refine S_store tabOk 2 rfl rfl rfl rfl rfl rfl ?_)
  exact ret1 rfl (ResIs.cellO tabOk 1 rfl rfl rfl rfl) (fun w' hw => ⟨a2, c2, rfl, hw.below (by repeat (first | exact new_nil | refine new_cons (by first | assumption | omega) ?_ | refine newrow hw 0 rfl (Nat.le_refl _) ?_)), hw.own _ (getE_mem (i := 0) rfl)⟩)
/-- weights, of any numbers -/
def wOf (l : List Int) : List Int := if l = [] then [1] else (l.take 8).map fun x => 1 + x
theorem wOf_right {l : List Int} (h : ∀ x ∈ l, 0 ≤ x ∧ x ≤ 255) : rightW (wOf l) := by
  unfold wOf
  split
  · exact ⟨by decide, by decide, fun x hx => by rw [List.mem_singleton] at hx; omega⟩
  · rename_i hl
    refine ⟨?_, by simp; omega, fun x hx => ?_⟩
    · cases l with
      | nil => exact absurd rfl hl
      | cons y l => simp
    · obtain ⟨y, hy, rfl⟩ := List.mem_map.1 hx
      have := h y (List.mem_of_mem_take hy)
      omega
set_option maxHeartbeats 2000000 in
theorem weights9_ok (a : Option Addr) (n c : Nat) (zs : List Int) (w : World) (hI : Ints .u8 w a n c zs) :
    Calls Try.prog 26 #[.slice a n c] w fun e w' => ∃ a2 c2, e = .returned (.slice a2 (wOf zs).length c2) ∧ Below w.heap.size w w' ∧ w'.ownsRow w.heap.size 3 1 (.slice a2 (wOf zs).length c2) (wOf zs).length ((wOf zs).map (.int .i64)) := by
  obtain rfl := hI.len
  have hmx := hI.max
  have hcp := hI.cap
  simp only [maxLen] at hmx
  refine enter1 Try.func26 rfl rfl (Hp.refl w) ?_
  repeat (first | refine T_seq ?_ | refine T_region ?_ | refine S_nil ?_ | refine S_pure tabOk rfl ?_)
  refine T_cut (ι := Option Addr × Nat) (fun _ => True) (fun i => [(3, .slice i.1 (zs.take 8).length i.2)]) (fun i => [.row w.heap.size (.slice i.1 (zs.take 8).length i.2) 3 1 (zs.take 8).length (((zs.take 8).map fun x => 1 + x).map (.int .i64))]) ?_ ?_
  · refine T_block ?_
    refine T_loop (ι := Nat × Option Addr × Nat) (fun i => [(3, .slice i.2.1 ((zs.take 8).take i.1).length i.2.2), (6, .slice a zs.length c), (7, .int .i64 (zs.length : Int)), (8, .int .i64 (i.1 : Int))])
      (fun i => [.row w.heap.size (.slice i.2.1 ((zs.take 8).take i.1).length i.2.2) 3 1 ((zs.take 8).take i.1).length ((((zs.take 8).take i.1).map fun x => 1 + x).map (.int .i64))]) (fun i => i.1 ≤ zs.length) (fun i => zs.length - i.1) (0, none, 0) (Nat.zero_le _) (by repeat (first | exact Sub.nil | refine Sub.cons rfl ?_)) (fun w' hw => hw.nilRow _ _) ?_
    rintro ⟨i, ao, co⟩ hi
    dsimp only at hi ⊢
    repeat (first | refine T_seq ?_ | refine T_region ?_ | refine S_nil ?_ | refine S_pure tabOk rfl ?_)
    refine T_cond_dec rfl (fun h => ?_) (fun h => ?_)
    · have hi' : i < zs.length := by omega
      obtain ⟨ab, off, rfl⟩ := ints_cell hI hi'
      have hxf := fits_u8 (hI.fits _ (List.getElem_mem hi'))
      repeat (first | refine T_seq ?_ | refine T_region ?_ | refine T_block ?_ | refine pthen_normal ?_ | refine T_skip ?_ | refine S_pure tabOk rfl ?_)
      refine S_q (Q_idx1 tabOk rfl rfl rfl rfl rfl rfl rfl (j := i) rfl (by omega)) ?_
      refine S_load1 tabOk (v := .int .u8 zs[i]) rfl rfl (fun w' hw => (hI.sl.ext (hw.below (by repeat (first | exact new_nil | refine newrow hw 0 rfl (Nat.le_refl _) ?_)))).at_ (by omega) (by rw [List.getElem?_map, List.getElem?_eq_getElem hi']; rfl)) ?_
      repeat (first | refine T_seq ?_ | refine T_region ?_ | refine S_nil ?_ | refine S_pure tabOk rfl ?_)
      refine T_cond_dec rfl (fun h8 => ?_) (fun h8 => ?_)
      · have hl : ((zs.take 8).take i).length = i := by rw [List.length_take, List.length_take]; omega
        have ht : (zs.take 8).take (i + 1) = (zs.take 8).take i ++ [zs[i]] := by
          rw [List.take_succ_eq_append_getElem (by rw [List.length_take]; omega)]
          simp
        repeat (first | refine S_i64 tabOk rfl (by omega) ?_ | refine S_pure tabOk rfl ?_ | refine T_region_any ?_)
        refine S_bslice tabOk rfl rfl rfl rfl rfl rfl rfl rfl rfl rfl rfl rfl (fun b19 hb19 => ?_)
        refine S_append (ty := 0) tabOk 1 rfl rfl rfl rfl rfl rfl rfl rfl rfl (by decide) (fun w' hw => Sl.of_blk (xs := [.int .i64 (1 + zs[i])]) (hw.own _ (getE_mem (i := 0) rfl)) rfl (fun j u hu => by rw [Nat.zero_add]; exact hu)) (by intro u hu; rw [List.mem_singleton] at hu; subst hu; rfl) (by simp only [maxLen]; omega) (by show (_ + _) * 8 ≤ _; omega) rfl (fun AS CS hcS hdS => ⟨_, rfl, ?_⟩)
        have e1 : ((((zs.take 8).take i).map fun x => 1 + x).map (Value.int .i64)) ++ [.int .i64 (1 + zs[i])] = (((zs.take 8).take (i + 1)).map fun x => 1 + x).map (.int .i64) := by rw [ht, List.map_append, List.map_append]; rfl
        have e2 : ((zs.take 8).take i).length + 1 = ((zs.take 8).take (i + 1)).length := by rw [ht]; simp
        rw [e1, e2]
        repeat (first | refine T_region ?_ | refine S_nil ?_ | refine pthen_normal ?_ | refine inb_normal ?_ | refine S_i64 tabOk rfl (by omega) ?_ | refine S_pure tabOk rfl ?_)
        exact ⟨(i + 1, AS, CS), hi', by dsimp only; repeat (first | exact Sub.nil | refine Sub.cons rfl ?_), fun w' hw => hw.fewer (by repeat (first | exact new_nil | refine new_cons (by first | assumption | omega) ?_ | refine newrow hw 1 rfl (Nat.le_refl _) ?_)) (by repeat (first | exact List.Sublist.slnil | refine List.Sublist.cons_cons _ ?_ | refine List.Sublist.cons _ ?_)), by dsimp only; omega⟩
      · repeat (first | refine T_region ?_ | refine S_nil ?_ | refine pthen_normal ?_ | refine inb_normal ?_ | refine T_skip ?_ | refine S_i64 tabOk rfl (by omega) ?_ | refine S_pure tabOk rfl ?_)
        have hl8 : (zs.take 8).length ≤ i := by rw [List.length_take]; omega
        have ht : (zs.take 8).take (i + 1) = (zs.take 8).take i := (List.take_of_length_le (by omega)).trans (List.take_of_length_le hl8).symm
        exact ⟨(i + 1, ao, co), hi', by dsimp only; rw [ht]; repeat (first | exact Sub.nil | refine Sub.cons rfl ?_), fun w' hw => by dsimp only; rw [ht]; exact hw, by dsimp only; omega⟩
    · repeat (first | refine pthen_normal ?_ | refine inb_hit ?_ | refine pthen_exit ?_ | refine T_exit ?_)
      have hiz : i = zs.length := by omega
      subst hiz
      have ht : (zs.take 8).take zs.length = zs.take 8 := List.take_of_length_le (by rw [List.length_take]; omega)
      rw [ht]
      exact ⟨(ao, co), trivial, by repeat (first | exact Sub.nil | refine Sub.cons rfl ?_), fun w' hw => hw⟩
  · rintro ⟨ao, co⟩ _
    dsimp only
    repeat (first | refine T_seq ?_ | refine T_region ?_ | refine S_nil ?_ | refine S_pure tabOk rfl ?_)
    refine T_cond_dec rfl (fun h0 => ?_) (fun h0 => ?_)
    · have hz0 : zs = [] := by
        cases zs with
        | nil => rfl
        | cons y l => simp at h0; omega
      repeat (first | refine T_region ?_)
      refine S_bslice tabOk rfl rfl rfl rfl rfl rfl rfl rfl rfl rfl rfl rfl (fun b25 hb25 => ?_)
      have hw1 : wOf zs = [1] := by unfold wOf; rw [if_pos hz0]
      rw [hw1]
      refine S_heap (fun w' h => Hp.closeRow (pre := []) (n := 1) (c := 1) (sz := 1) h hb25 (by decide) (by decide) rfl) ?_
      repeat (first | refine T_seq ?_ | refine T_region ?_ | refine S_nil ?_ | refine T_ret ?_ | refine S_pure tabOk rfl ?_)
      exact ret1 rfl rfl (fun w' hw => ⟨_, _, rfl, hw.below (by repeat (first | exact new_nil | refine newrow hw 0 rfl (Nat.le_refl _) ?_ | refine newrow hw 1 rfl (Nat.le_refl _) ?_)), hw.own _ (getE_mem (i := 0) rfl)⟩)
    · have hw1 : wOf zs = (zs.take 8).map fun x => 1 + x := by
        unfold wOf
        rw [if_neg (fun e => h0 (by rw [e]; rfl))]
      rw [hw1]
      have e3 : ((zs.take 8).map fun x => 1 + x).length = (zs.take 8).length := List.length_map _
      rw [e3]
      repeat (first | refine T_seq ?_ | refine T_region ?_ | refine S_nil ?_ | refine pthen_normal ?_ | refine T_skip ?_ | refine T_ret ?_ | refine S_pure tabOk rfl ?_)
      exact ret1 rfl rfl (fun w' hw => ⟨_, _, rfl, hw.below (by repeat (first | exact new_nil | refine newrow hw 0 rfl (Nat.le_refl _) ?_)), hw.own _ (getE_mem (i := 0) rfl)⟩)
end Go.Proofs.Yteogkadjambmkaa
