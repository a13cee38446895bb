/-
  The document's board: rising lists of numbers; who is in some runs; a wait. Conditions: each theorem's own.
-/
import Derived.Test.YtidhpofcofknhaaBoL
import Derived.Test.YtidhpofcofknhaaEngAd
namespace Go.Proofs.Ytidhpofcofknhaa
open Go Go.RowKit
set_option linter.unusedVariables false

theorem insU_here {x : Int} : ∀ {i : Nat} {l : List Int}, (∀ p ∈ l.take i, p < x) → (∀ p, l[i]? = some p → x < p) → i ≤ l.length → insU x l = l.take i ++ x :: l.drop i
  | 0, [], _, _, _ => rfl
  | 0, y :: l, _, h2, _ => by
    unfold insU
    rw [if_pos (h2 y rfl)]
    rfl
  | i + 1, [], _, _, h3 => absurd h3 (Nat.not_succ_le_zero _)
  | i + 1, y :: l, h1, h2, h3 => by
    have hy := h1 y (by rw [List.take_succ_cons]; exact List.mem_cons_self)
    unfold insU
    rw [if_neg (by omega), if_neg (by omega), insU_here (i := i) (fun p hp => h1 p (by rw [List.take_succ_cons]; exact List.mem_cons_of_mem _ hp)) (fun p hp => h2 p (by rw [List.getElem?_cons_succ]; exact hp)) (by simpa using h3)]
    rfl
theorem insU_there {x : Int} : ∀ {i : Nat} {l : List Int}, (∀ p ∈ l.take i, p < x) → l[i]? = some x → insU x l = l
  | 0, [], _, h2 => by cases h2
  | 0, y :: l, _, h2 => by
    cases h2
    unfold insU
    rw [if_neg (by omega), if_pos rfl]
  | i + 1, [], _, h2 => by cases h2
  | i + 1, y :: l, h1, h2 => by
    have hy := h1 y (by rw [List.take_succ_cons]; exact List.mem_cons_self)
    unfold insU
    rw [if_neg (by omega), if_neg (by omega), insU_there (i := i) (fun p hp => h1 p (by rw [List.take_succ_cons]; exact List.mem_cons_of_mem _ hp)) (by rw [List.getElem?_cons_succ] at h2; exact h2)]
theorem sortU_snoc (l : List Int) (x : Int) : sortU (l ++ [x]) = insU x (sortU l) := by
  unfold sortU
  rw [List.foldl_append]
  rfl
theorem u64s_get {l : List Int} {i : Nat} (h : i < l.length) : (u64s l)[i]? = some (.int .u64 l[i]) := by
  show (l.map (Value.int .u64))[i]? = _
  rw [List.getElem?_map, List.getElem?_eq_getElem h]
  rfl
theorem u64s_one {l : List Int} {u : Value} (hu : u ∈ u64s l) : u.oneCell' = true := by
  obtain ⟨z, _, rfl⟩ := List.mem_map.1 hu
  rfl
theorem u64_at {w : World} {A : Nat → Prop} {a : Option Addr} {n c : Nat} {l : List Int} (h : SlR (Rint .u64) w A a n c l) {i : Nat} (hi : i < l.length) : ∃ b off, a = some ⟨b, off, none⟩ ∧ ∀ w', Below w.heap.size w w' → w'.cell? ⟨b, off + i, none⟩ = some (.int .u64 l[i]) := by
  obtain ⟨b, off, cs, e, hlt, hat, _, hce, _⟩ := h.get_ hi
  obtain ⟨rfl, _⟩ := hat
  exact ⟨b, off, e, fun w' hb => by
    have := hce 0 _ rfl
    rw [show (Rint .u64).sz = 1 from rfl, Nat.mul_one, Nat.add_zero] at this
    exact (hb.cell (p := ⟨b, off + i, none⟩) hlt).trans this⟩
structure RSo where
  j : Nat
  a : Option Addr
  c : Nat
set_option maxHeartbeats 4000000 in
theorem rsorted13_ok {a : Option Addr} {n c : Nat} {l : List Int} {A : Nat → Prop} (w : World) (hx : SlR (Rint .u64) w A a n c l) (hn : n ≤ 1000000) : Calls Try.prog 36 #[.slice a n c] w fun e w' => ∃ a' c', e = .returned (.slice a' (sortU l).length c') ∧ Below w.heap.size w w' ∧ w'.ownsRow w.heap.size 34 1 (.slice a' (sortU l).length c') (sortU l).length (u64s (sortU l)) := by
  have hl := hx.len
  refine enter1 Try.func36 rfl rfl (Hp.refl w) ?_
  repeat (first | refine T_seq ?_ | refine T_region ?_ | refine T_block ?_ | refine S_nil ?_ | refine S_pure tabOk rfl ?_)
  refine T_loop (ι := RSo) (fun i => [(8, .slice a n c), (9, .int .i64 (n : Int)), (10, .int .i64 (i.j : Int)), (3, .slice i.a (sortU (l.take i.j)).length i.c)])
    (fun i => [.row w.heap.size (.slice i.a (sortU (l.take i.j)).length i.c) 34 1 (sortU (l.take i.j)).length (u64s (sortU (l.take i.j)))])
    (fun i => i.j ≤ n ∧ (sortU (l.take i.j)).length ≤ i.c) (fun i => n - i.j) ⟨0, none, 0⟩ ⟨Nat.zero_le _, Nat.zero_le _⟩ (by repeat (first | exact Sub.nil | refine Sub.cons rfl ?_)) (fun w' hw => hw.nilRow _ _) ?_
  rintro ⟨j, a1, c1⟩ ⟨hj, hc1⟩
  dsimp only at hj hc1 ⊢
  have hcl := @sortU_len (l.take j)
  rw [List.length_take] at hcl
  repeat (first | refine T_seq ?_ | refine T_region ?_ | refine S_nil ?_ | refine S_pure tabOk rfl ?_)
  refine T_cond_dec rfl (fun hlt => ?_) (fun hge => ?_)
  rotate_left
  · repeat (first | refine T_seq ?_ | refine T_region ?_ | refine S_nil ?_ | refine pthen_normal ?_ | refine inb_hit ?_ | refine pthen_exit ?_ | refine T_ret ?_ | refine T_exit ?_ | refine S_pure tabOk rfl ?_)
    have e : j = n := by omega
    refine ret1 rfl rfl (fun w' hw => ?_)
    rw [show l.take j = l by rw [e, ← hl, List.take_length]] at hw ⊢
    exact ⟨_, _, rfl, hw.below (by repeat (first | exact new_nil | refine newrow hw 0 rfl (Nat.le_refl _) ?_)), hw.own _ (getE_mem (i := 0) rfl)⟩
  have hjl : j < l.length := by omega
  obtain ⟨ab, off, rfl, hcell⟩ := u64_at hx hjl
  have hs : sortU (l.take (j + 1)) = insU l[j] (sortU (l.take j)) := by rw [List.take_succ_eq_append_getElem hjl, sortU_snoc]
  obtain ⟨x, hxe⟩ : ∃ x, x = l[j] := ⟨_, rfl⟩
  rw [← hxe] at hcell hs
  obtain ⟨L, hL⟩ : ∃ L, L = sortU (l.take j) := ⟨_, rfl⟩
  rw [← hL] at hs hcl hc1 ⊢
  repeat (first | refine T_seq ?_ | refine T_region ?_ | refine T_block ?_ | refine pthen_normal ?_ | refine T_skip ?_)
  refine S_q (Q_idx (sz := 1) tabOk rfl rfl rfl rfl rfl rfl rfl rfl (j := j) (by omega)) ?_
  skip
  refine S_load1 tabOk (v := .int .u64 x) rfl rfl (fun w' hw => by rw [Nat.mul_one]; exact hcell w' (hw.below (by repeat (first | exact new_nil | refine newrow hw 0 rfl (Nat.le_refl _) ?_)))) ?_
  repeat (first | refine T_seq ?_ | refine T_region ?_ | refine S_nil ?_ | refine S_pure tabOk rfl ?_)
  refine T_cut (ι := Nat) (fun i => i ≤ L.length ∧ (∀ p ∈ L.take i, p < x) ∧ ∀ p, L[i]? = some p → x ≤ p) (fun i => [(8, .slice (some ⟨ab, off, none⟩) n c), (9, .int .i64 (n : Int)), (10, .int .i64 (j : Int)), (3, .slice a1 L.length c1), (5, .int .u64 x), (6, .int .i64 (i : Int))])
    (fun i => [.row w.heap.size (.slice a1 L.length c1) 34 1 L.length (u64s L)]) ?_ ?_
  · refine T_block ?_
    refine T_loop (ι := Nat) (fun i => [(8, .slice (some ⟨ab, off, none⟩) n c), (9, .int .i64 (n : Int)), (10, .int .i64 (j : Int)), (3, .slice a1 L.length c1), (5, .int .u64 x), (6, .int .i64 (i : Int))])
      (fun i => [.row w.heap.size (.slice a1 L.length c1) 34 1 L.length (u64s L)]) (fun i => i ≤ L.length ∧ ∀ p ∈ L.take i, p < x) (fun i => L.length - i) 0 ⟨Nat.zero_le _, by simp⟩ (by repeat (first | exact Sub.nil | refine Sub.cons rfl ?_)) (fun w' hw => hw) ?_
    rintro i ⟨hi, hb⟩
    repeat (first | refine T_seq ?_ | refine T_region ?_ | refine S_pure tabOk rfl ?_)
    refine S_split rfl rfl (fun h0 => ?_) (fun h0 => ?_)
    · have hi' : i < L.length := by omega
      have e1 := u64s_get hi'
      refine S_rowA 0 rfl (by omega) (fun bS hbS => ?_)
      subst hbS
      repeat (first | refine S_pure tabOk rfl ?_)
      refine S_q (Q_idx (sz := 1) tabOk rfl rfl rfl rfl rfl rfl rfl rfl (j := i) (by omega)) ?_
      skip
      refine S_load1 tabOk (v := .int .u64 L[i]) rfl rfl (fun w' hw => by rw [Nat.zero_add, Nat.mul_one]; exact own_cell (hw.own _ (getE_mem (i := 0) rfl)) (by omega) e1) ?_
      repeat (first | refine S_nil ?_ | refine S_pure tabOk rfl ?_)
      refine T_cond_dec rfl (fun h3 => ?_) (fun h3 => ?_)
      · repeat (first | refine T_block ?_ | refine S_nil ?_ | refine pthen_normal ?_ | refine inb_normal ?_ | refine T_skip ?_ | refine S_i64 tabOk rfl (by omega) ?_ | refine S_pure tabOk rfl ?_ | refine T_region_any ?_)
        exact ⟨i + 1, ⟨by omega, fun p hp => by
          rw [List.take_succ_eq_append_getElem hi', List.mem_append, List.mem_singleton] at hp
          rcases hp with hp | rfl
          · exact hb p hp
          · exact h3⟩, by repeat (first | exact Sub.nil | refine Sub.cons rfl ?_), fun w' hw => hw, by omega⟩
      · repeat (first | refine pthen_normal ?_ | refine inb_hit ?_ | refine pthen_exit ?_ | refine T_exit ?_)
        exact ⟨i, ⟨hi, hb, fun p hp => by
          rw [List.getElem?_eq_getElem hi'] at hp
          cases hp
          omega⟩, by repeat (first | exact Sub.nil | refine Sub.cons rfl ?_), fun w' hw => hw⟩
    · have e : i = L.length := by omega
      subst e
      repeat (first | refine S_nil ?_ | refine S_pure tabOk rfl ?_ | refine S_pass rfl rfl rfl ?_)
      refine T_cond_f rfl ?_
      repeat (first | refine pthen_normal ?_ | refine inb_hit ?_ | refine pthen_exit ?_ | refine T_exit ?_)
      exact ⟨L.length, ⟨Nat.le_refl _, hb, fun p hp => by rw [List.getElem?_eq_none (Nat.le_refl _)] at hp; cases hp⟩, by repeat (first | exact Sub.nil | refine Sub.cons rfl ?_), fun w' hw => hw⟩
  rintro i ⟨hi, hb1, hb2⟩
  have hnx : sortU (l.take (j + 1)) = (if L[i]? = some x then L else L.take i ++ x :: L.drop i) := by
    rw [hs]
    split
    · rename_i h9
      exact insU_there hb1 h9
    · rename_i h9
      exact insU_here hb1 (fun p hp => by
        have := hb2 p hp
        have : p ≠ x := fun e => h9 (e ▸ hp)
        omega) hi
  have hgo : ∀ (hne : L[i]? ≠ some x), sortU (l.take (j + 1)) = L.take i ++ x :: L.drop i := fun hne => by rw [hnx, if_neg hne]
  have hback : L[i]? = some x → sortU (l.take (j + 1)) = L := fun h9 => by rw [hnx, if_pos h9]
  have htl : (L.take i).length = i := by rw [List.length_take]; omega
  have hdl : (L.drop i).length = L.length - i := List.length_drop
  have hall : (L.take i ++ x :: L.drop i).length = L.length + 1 := by simp [htl, hdl]; omega
  repeat (first | refine T_seq ?_ | refine T_region ?_ | refine S_pure tabOk rfl ?_)
  refine S_cut (ι := Bool) (fun b => b = true ↔ L[i]? = some x) (fun b => [(8, .slice (some ⟨ab, off, none⟩) n c), (9, .int .i64 (n : Int)), (10, .int .i64 (j : Int)), (3, .slice a1 L.length c1), (5, .int .u64 x), (6, .int .i64 (i : Int)), (39, .bool b)])
    (fun _ => [.row w.heap.size (.slice a1 L.length c1) 34 1 L.length (u64s L)]) ?_ ?_
  · refine S_split rfl rfl (fun h0 => ?_) (fun h0 => ?_)
    · have hi' : i < L.length := by omega
      have e1 := u64s_get hi'
      refine S_rowA 0 rfl (by omega) (fun bS hbS => ?_)
      subst hbS
      repeat (first | refine S_pure tabOk rfl ?_)
      refine S_q (Q_idx (sz := 1) tabOk rfl rfl rfl rfl rfl rfl rfl rfl (j := i) (by omega)) ?_
      skip
      refine S_load1 tabOk (v := .int .u64 L[i]) rfl rfl (fun w' hw => by rw [Nat.zero_add, Nat.mul_one]; exact own_cell (hw.own _ (getE_mem (i := 0) rfl)) (by omega) e1) ?_
      repeat (first | refine S_nil ?_ | refine S_pure tabOk rfl ?_)
      exact ⟨decide (L[i] = x), by rw [decide_eq_true_iff, List.getElem?_eq_getElem hi', Option.some.injEq], by repeat (first | exact Sub.nil | refine Sub.cons rfl ?_), fun w' hw => hw⟩
    · repeat (first | refine S_nil ?_ | refine S_pure tabOk rfl ?_ | refine S_pass rfl rfl rfl ?_)
      exact ⟨false, ⟨(fun h => by cases h), fun h => by rw [List.getElem?_eq_none (by omega)] at h; cases h⟩, by repeat (first | exact Sub.nil | refine Sub.cons rfl ?_), fun w' hw => hw⟩
  intro b hb
  cases b with
  | true =>
    refine T_cond_t rfl ?_
    repeat (first | refine T_region ?_ | refine S_nil ?_ | refine pthen_normal ?_ | refine inb_hit ?_ | refine pthen_exit ?_ | refine T_exit ?_ | refine S_i64 tabOk rfl (by omega) ?_ | refine S_pure tabOk rfl ?_)
    have h9 := hback (hb.1 rfl)
    refine ⟨⟨j + 1, a1, c1⟩, ⟨by show j + 1 ≤ n; omega, ?_⟩, ?_, fun w' hw => ?_, by show n - (j + 1) < n - j; omega⟩
    all_goals dsimp only; rw [h9]
    · exact hc1
    · repeat (first | exact Sub.nil | refine Sub.cons rfl ?_)
    · exact hw
  | false =>
    refine T_cond_f rfl ?_
    have h9 := hgo (fun h => by have := hb.2 h; cases this)
    repeat (first | refine T_seq ?_ | refine T_region ?_ | refine pthen_normal ?_ | refine T_skip ?_ | refine S_pure tabOk rfl ?_)
    refine S_bslice tabOk rfl rfl rfl rfl rfl rfl rfl rfl rfl rfl rfl rfl (fun b41 hb41 => ?_)
    refine S_heap (fun w' h => Hp.closeRow (pre := []) (n := 1) (c := 1) (sz := 1) (cs := [.int .u64 x]) h hb41 (by decide) (by decide) rfl) ?_
    repeat (first | refine S_pure tabOk rfl ?_)
    refine S_q (Q_sliceFrom tabOk rfl rfl rfl rfl rfl rfl rfl (L := i) rfl hi hc1) ?_
    skip
    refine S_append (ty := 0) tabOk 0 (news := u64s (L.drop i)) rfl rfl rfl rfl rfl rfl rfl rfl rfl (by decide) (fun w' hw => by
      have := (Sl.of_own (hw.own _ (getE_mem (i := 1) rfl))).drop (k := i) hi hc1
      rw [show u64s (L.drop i) = (u64s L).drop (i * 1) by rw [Nat.mul_one]; exact List.map_drop]
      exact this) (fun u hu => u64s_one hu) (by simp only [maxLen]; omega) (by show (_ + _) * 8 ≤ _; omega) rfl (fun A1 C1 hc2 hd2 => ⟨_, rfl, ?_⟩)
    rw [show List.take (1 * 1) [Value.int .u64 x] ++ u64s (L.drop i) = u64s (x :: L.drop i) from rfl]
    repeat (first | refine S_nil ?_ | refine S_pure tabOk rfl ?_ | refine T_region_any ?_)
    refine S_bslice tabOk rfl rfl rfl rfl rfl rfl rfl rfl rfl rfl rfl rfl (fun b46 hb46 => ?_)
    refine S_heap (fun w' h => Hp.closeRow (pre := []) (n := 0) (c := 0) (sz := 1) (cs := []) h hb46 (by decide) (by decide) rfl) ?_
    repeat (first | refine S_pure tabOk rfl ?_)
    refine S_q (Q_sliceTo tabOk rfl rfl rfl rfl rfl rfl (H := i) rfl (by omega)) ?_
    skip
    refine S_append (ty := 0) tabOk 0 (news := u64s (L.take i)) rfl rfl rfl rfl rfl rfl rfl rfl rfl (by decide) (fun w' hw => by
      have := (Sl.of_own (hw.own _ (getE_mem (i := 2) rfl))).take (k := i) hi
      rw [show u64s (L.take i) = (u64s L).take (i * 1) by rw [Nat.mul_one]; exact List.map_take]
      exact this) (fun u hu => u64s_one hu) (by simp only [maxLen]; omega) (by show (_ + _) * 8 ≤ _; omega) rfl (fun A2 C2 hc3 hd3 => ⟨_, rfl, ?_⟩)
    rw [show List.take (0 * 1) ([] : List Value) ++ u64s (L.take i) = u64s (L.take i) from rfl, Nat.zero_add]
    repeat (first | refine S_pure tabOk rfl ?_)
    refine S_append (ty := 0) tabOk 0 (news := u64s (x :: L.drop i)) rfl rfl rfl rfl rfl rfl rfl rfl rfl (by decide) (fun w' hw => Sl.of_own (hw.own _ (getE_mem (i := 1) rfl))) (fun u hu => u64s_one hu) (by simp only [maxLen]; omega) (by show (_ + _) * 8 ≤ _; omega) rfl (fun A3 C3 hc4 hd4 => ⟨_, rfl, ?_⟩)
    rw [show u64s (L.take i) ++ u64s (x :: L.drop i) = u64s (L.take i ++ x :: L.drop i) from (List.map_append).symm, show i + (1 + (L.length - i)) = L.length + 1 by omega]
    repeat (first | refine T_region ?_ | refine S_nil ?_ | refine pthen_normal ?_ | refine inb_normal ?_ | refine S_i64 tabOk rfl (by omega) ?_ | refine S_pure tabOk rfl ?_)
    refine ⟨⟨j + 1, A3, C3⟩, ⟨by show j + 1 ≤ n; omega, ?_⟩, ?_, fun w' hw => ?_, by show n - (j + 1) < n - j; omega⟩
    all_goals dsimp only; rw [h9, hall]
    · omega
    · repeat (first | exact Sub.nil | refine Sub.cons rfl ?_)
    · exact hw.less (by repeat (first | exact Less.nil | refine Less.keep ?_ | refine Less.dropW (Nat.le_refl _) ?_))
end Go.Proofs.Ytidhpofcofknhaa
