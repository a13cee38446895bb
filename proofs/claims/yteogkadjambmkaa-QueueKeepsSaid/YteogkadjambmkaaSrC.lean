/-
  slices.Sort at uint64: the partitions. Conditions: each theorem's own. (Made by genSr.py.)
-/
import Derived.Test.YteogkadjambmkaaSrB
namespace Go.Proofs.Yteogkadjambmkaa
open Go Go.RowKit Go.Sort
set_option linter.unusedVariables false

theorem up_stop {p : Int → Bool} {d : Array Int} {j i : Nat} (h : ¬ i ≤ j ∨ p d[i]! = false) : scanUp p d j i = i := by
  unfold scanUp
  rw [if_neg]
  intro hh
  rw [Bool.and_eq_true, decide_eq_true_eq] at hh
  rcases h with h | h
  · exact h hh.1
  · rw [h] at hh; exact absurd hh.2 (by decide)
theorem up_step {p : Int → Bool} {d : Array Int} {j i : Nat} (h : i ≤ j) (hp : p d[i]! = true) : scanUp p d j i = scanUp p d j (i + 1) := by
  conv => lhs; unfold scanUp
  rw [if_pos (by rw [Bool.and_eq_true, decide_eq_true_eq]; exact ⟨h, hp⟩)]
theorem dn_stop {p : Int → Bool} {d : Array Int} {j i : Nat} (h : ¬ i ≤ j ∨ p d[j]! = false) (h1 : 1 ≤ i) : scanDown p d i j = j := by
  cases j with
  | zero => rfl
  | succ j =>
    unfold scanDown
    rw [if_neg]
    intro hh
    rw [Bool.and_eq_true, decide_eq_true_eq] at hh
    rcases h with h | h
    · exact h hh.1
    · rw [h] at hh; exact absurd hh.2 (by decide)
theorem dn_step {p : Int → Bool} {d : Array Int} {j i : Nat} (h : i ≤ j) (h1 : 1 ≤ i) (hp : p d[j]! = true) : scanDown p d i j = scanDown p d i (j - 1) := by
  obtain ⟨k, rfl⟩ : ∃ k, j = k + 1 := ⟨j - 1, by omega⟩
  conv => lhs; unfold scanDown
  rw [if_pos (by rw [Bool.and_eq_true, decide_eq_true_eq]; exact ⟨h, hp⟩)]
  rfl
theorem scan2 (p q : Int → Bool) (hq : ∀ x, q x = !p x) (d : Array Int) {i j : Nat} (h1 : 1 ≤ i) (h : i ≤ j + 1) : i ≤ scanUp p d j i ∧ scanUp p d j i ≤ j + 1 ∧ scanDown q d (scanUp p d j i) j ≤ j ∧ scanUp p d j i ≤ scanDown q d (scanUp p d j i) j + 1 ∧ (scanUp p d j i ≤ scanDown q d (scanUp p d j i) j → scanUp p d j i < scanDown q d (scanUp p d j i) j) := by
  obtain ⟨u1, u2, u3, u4⟩ := scanUp_spec p d j _ i rfl
  obtain ⟨v1, v2, v3, v4⟩ := scanDown_spec q d (scanUp p d j i) j
  refine ⟨u1, u2 h, v1, v2 (u2 h), fun hh => ?_⟩
  generalize scanUp p d j i = i2 at *
  generalize scanDown q d i2 j = j2 at *
  have a1 := u4 (by omega)
  have a2 := v4 hh (by omega)
  rw [hq] at a2
  rcases Nat.lt_or_ge i2 j2 with h3 | h3
  · exact h3
  · have : i2 = j2 := by omega
    rw [← this, a1] at a2
    cases a2
set_option maxHeartbeats 8000000 in
theorem part_ok {w0 w : World} {g c n : Nat} {d0 : Array Int} {junk : List Value} {rest : OL} (a b pivot : Nat) (h : Hp w0 w (uE g 59 d0 junk :: rest)) (hn : d0.size = n) (hp1 : a ≤ pivot) (hp2 : pivot < b) (hb : b ≤ n) (hm : n ≤ 1152921504606846976) : Calls Try.prog 86 #[.slice (some ⟨g, 0, none⟩) n c, .int .i64 (a : Int), .int .i64 (b : Int), .int .i64 (pivot : Int)] w fun e w' => e = .returned (.tuple #[.int .i64 (((partition ltI d0 a b pivot).1 : Nat) : Int), .bool (partition ltI d0 a b pivot).2.1]) ∧ Hp w0 w' (uE g 59 ((partition ltI d0 a b pivot).2.2) junk :: rest) ∧ ((partition ltI d0 a b pivot).2.2).size = n := by
  refine enterW4 Try.func86 rfl rfl h ?_
  obtain ⟨R, hR⟩ : ∃ R, R = partition ltI d0 a b pivot := ⟨_, rfl⟩
  rw [← hR]
  unfold partition at hR
  repeat (first | refine T_seq ?_ | refine T_region ?_ | refine S_nil ?_ | refine S_pure tabOk rfl ?_)
  have hs := swp_size d0 a pivot
  let ol0 : OL := uE g 59 d0 junk :: rest
  let ol1 : OL := .blk g (.cells ⟨(uA d0 junk).set a (.int .u64 d0[pivot]!)⟩ 59 (0, 0)) true :: rest
  let ol2 : OL := uE g 59 (swp d0 a pivot) junk :: rest
  let olf : (Nat → Bool) → OL := fun L => match L 15 with
    | true => ol2
    | false => match L 13 with
      | true => ol1
      | false => ol0
  refine T_drawS (by kernel_rfl) (by kernel_rfl) [.slice (some ⟨g, 0, none⟩) n c, .int .i64 (a : Int), .slice (some ⟨g, 0, none⟩) n c, .int .i64 (pivot : Int), .slice (some ⟨g, 0, none⟩) n c, .int .i64 (pivot : Int), .pointer (some ⟨g, 0 + pivot, none⟩), .int .u64 d0[pivot]!, .slice (some ⟨g, 0, none⟩) n c, .int .i64 (a : Int), .pointer (some ⟨g, 0 + a, none⟩), .int .u64 d0[a]!, .pointer (some ⟨g, 0 + a, none⟩), undef, .pointer (some ⟨g, 0 + pivot, none⟩), undef] rfl olf rfl ?_ (l' := [(0, .slice (some ⟨g, 0, none⟩) n c), (1, .int .i64 (a : Int)), (2, .int .i64 (b : Int))]) (ol' := ol2) (fun L h => by simp only [olf, h 15 (by decide)]) (by repeat (first | exact SubD.nil | refine SubD.cons rfl ?_)) ?_
  · refine ⟨?_, ?_, ?_, ?_, ?_, ?_, ?_, ?_, ?_, ?_, ?_, ?_, ?_, ?_, ?_, ?_, trivial⟩
    · exact fun L hc hl hp => OpS.ofD rfl (D_pure tabOk rfl D_last)
    · exact fun L hc hl hp => OpS.ofD rfl (D_pure tabOk rfl D_last)
    · exact fun L hc hl hp => OpS.ofD rfl (D_pure tabOk rfl D_last)
    · exact fun L hc hl hp => OpS.ofD rfl (D_pure tabOk rfl D_last)
    · exact fun L hc hl hp => OpS.ofD rfl (D_pure tabOk rfl D_last)
    · exact fun L hc hl hp => OpS.ofD rfl (D_pure tabOk rfl D_last)
    · exact fun L hc hl hp => OpS.ofD rfl (D_q (Q_idx1 tabOk rfl rfl rfl rfl rfl rfl rfl (j := pivot) (by omega) (by omega)) D_last)
    · intro L hc hl hp
      have h13 := closed_no hc (j := 13) rfl ⟨7, .data⟩ (by simp) rfl hl
      have h15 := closed_no hc (j := 15) rfl ⟨7, .phase⟩ (by simp) rfl hl
      have e1 : olf L = ol0 := by simp only [olf, h13, h15]
      have e2 : olf (add L 7) = ol0 := by simp [olf, add, h13, h15]
      rw [e1, e2]
      exact OpS.ofD rfl (D_load1 tabOk (v := .int .u64 d0[pivot]!) rfl rfl (fun w' hw => blkc hw (uA_get (by omega))) D_last)
    · exact fun L hc hl hp => OpS.ofD rfl (D_pure tabOk rfl D_last)
    · exact fun L hc hl hp => OpS.ofD rfl (D_pure tabOk rfl D_last)
    · exact fun L hc hl hp => OpS.ofD rfl (D_q (Q_idx1 tabOk rfl rfl rfl rfl rfl rfl rfl (j := a) (by omega) (by omega)) D_last)
    · intro L hc hl hp
      have h13 := closed_no hc (j := 13) rfl ⟨11, .phase⟩ (by simp) rfl hl
      have h15 := closed_no hc (j := 15) rfl ⟨11, .data⟩ (by simp) rfl hl
      have e1 : olf L = ol0 := by simp only [olf, h13, h15]
      have e2 : olf (add L 11) = ol0 := by simp [olf, add, h13, h15]
      rw [e1, e2]
      exact OpS.ofD rfl (D_load1 tabOk (v := .int .u64 d0[a]!) rfl rfl (fun w' hw => blkc hw (uA_get (by omega))) D_last)
    · exact fun L hc hl hp => OpS.ofD rfl (D_q (Q_idx1 tabOk rfl rfl rfl rfl rfl rfl rfl (j := a) (by omega) (by omega)) D_last)
    · intro L hc hl hp
      have h15 := closed_no hc (j := 15) rfl ⟨13, .chain⟩ (by simp) rfl hl
      have e1 : olf L = ol0 := by simp only [olf, hl, h15]
      have e2 : olf (add L 13) = ol1 := by simp [olf, add, h15]
      rw [e1, e2]
      exact OpS.store tabOk 0 rfl rfl (by intro x hx; rw [List.mem_singleton] at hx; subst hx; rfl) rfl (by rw [Nat.zero_add]; exact setMany_1 (by rw [uA_len]; omega)) rfl
    · exact fun L hc hl hp => OpS.ofD rfl (D_q (Q_idx1 tabOk rfl rfl rfl rfl rfl rfl rfl (j := pivot) (by omega) (by omega)) D_last)
    · intro L hc hl hp
      have h13 : L 13 = true := hp ⟨13, .chain⟩ (by simp) rfl
      have e1 : olf L = ol1 := by simp only [olf, h13, hl]
      have e2 : olf (add L 15) = ol2 := by simp [olf, add]
      rw [e1, e2]
      exact OpS.store tabOk 0 rfl rfl (by intro x hx; rw [List.mem_singleton] at hx; subst hx; rfl) rfl (by rw [Nat.zero_add]; exact (setMany_1 (by rw [List.length_set, uA_len]; omega)).trans (congrArg some (uA_swp (by omega) (by omega)))) rfl
  clear olf ol0 ol1
  dsimp only [ol2]
  clear ol2
  obtain ⟨d, hd0⟩ : ∃ d, d = swp d0 a pivot := ⟨_, rfl⟩
  rw [← hd0] at hR hs ⊢
  clear hd0
  have hd : d.size = n := by omega
  repeat (first | refine T_seq ?_ | refine T_region ?_ | refine S_nil ?_ | refine S_i64 tabOk rfl (by omega) ?_ | refine S_pure tabOk rfl ?_)
  skip
  obtain ⟨ia, hia⟩ : ∃ i, i = a + 1 := ⟨_, rfl⟩
  obtain ⟨jb, hjb⟩ : ∃ j, j = b - 1 := ⟨_, rfl⟩
  rw [← hjb, ← hia] at hR
  refine T_sub (l' := [(0, .slice (some ⟨g, 0, none⟩) n c), (1, .int .i64 (a : Int)), (2, .int .i64 (b : Int)), (10, .int .i64 (ia : Int)), (11, .int .i64 (jb : Int))]) (by repeat (first | exact Sub.nil | refine Sub.cons rfl ?_ | refine Sub.cons_int rfl (by omega) ?_)) ?_
  obtain ⟨i1, hi1⟩ : ∃ i, i = scanUp (fun x => ltI x d[a]!) d jb ia := ⟨_, rfl⟩
  obtain ⟨j1, hj1⟩ : ∃ j, j = scanDown (fun x => !ltI x d[a]!) d i1 jb := ⟨_, rfl⟩
  obtain ⟨f1, f2, f3, f4, f5⟩ := scan2 (fun x => ltI x d[a]!) (fun x => !ltI x d[a]!) (fun _ => rfl) d (i := ia) (j := jb) (by omega) (by omega)
  rw [← hi1, ← hj1] at f3 f4 f5
  rw [← hi1] at f1 f2
  replace hR : R = if i1 > j1 then (j1, true, swp d j1 a) else ((partLoop ltI a (i1 + 1) (j1 - 1) (swp d i1 j1)).1, false, swp (partLoop ltI a (i1 + 1) (j1 - 1) (swp d i1 j1)).2 (partLoop ltI a (i1 + 1) (j1 - 1) (swp d i1 j1)).1 a) := by rw [hR, hi1, hj1, hi1]
  refine T_cut (ι := Unit) (fun _ => True) (fun _ => [(0, .slice (some ⟨g, 0, none⟩) n c), (1, .int .i64 (a : Int)), (2, .int .i64 (b : Int)), (11, .int .i64 (jb : Int)), (10, .int .i64 (i1 : Int))]) (fun _ => uE g 59 d junk :: rest) ?_ ?_
  · refine T_block ?_
    refine T_loop (ι := Nat) (fun t => [(0, .slice (some ⟨g, 0, none⟩) n c), (1, .int .i64 (a : Int)), (2, .int .i64 (b : Int)), (11, .int .i64 (jb : Int)), (10, .int .i64 (t : Int))]) (fun _ => uE g 59 d junk :: rest) (fun t => ia ≤ t ∧ t ≤ jb + 1 ∧ i1 = scanUp (fun x => ltI x d[a]!) d jb t) (fun t => jb + 1 - t) ia ⟨by omega, by omega, by assumption⟩ (by repeat (first | exact Sub.nil | refine Sub.cons rfl ?_)) (fun w' hw => hw) ?_
    rintro t ⟨ht1, ht2, hR⟩
    by_cases hc : t ≤ jb
    rotate_left
    · rw [up_stop (p := fun x => ltI x d[a]!) (.inl hc)] at hR
      subst hR
      repeat (first | refine T_draw (by kernel_rfl) (by kernel_rfl) ?_ | refine D_pure tabOk rfl ?_ | refine T_seq ?_)
      refine D_re 33 (v' := .bool false) rfl (congrArg Value.bool (decide_eq_false (by omega))) ?_
      repeat (first | refine D_all rfl ?_ | refine D_pure tabOk rfl ?_ | refine D_pass rfl rfl rfl ?_)
      refine T_cond_f rfl ?_
      repeat (first | refine pthen_normal ?_ | refine inb_hit ?_ | refine pthen_exit ?_ | refine T_exit ?_)
      exact ⟨(), trivial, by repeat (first | exact Sub.nil | refine Sub.cons rfl ?_), fun w' hw => hw⟩
    cases hb : ltI d[t]! d[a]! with
    | false =>
      rw [up_stop (p := fun x => ltI x d[a]!) (.inr hb)] at hR
      subst hR
      repeat (first | refine T_draw (by kernel_rfl) (by kernel_rfl) ?_ | refine D_pure tabOk rfl ?_ | refine T_seq ?_)
      refine D_re 33 (v' := .bool true) rfl (congrArg Value.bool (decide_eq_true (by omega))) ?_
      repeat (first | refine D_pure tabOk rfl ?_)
      refine D_q (Q_idx1 tabOk rfl rfl rfl rfl rfl rfl rfl (j := i1) (by omega) (by omega)) ?_
      refine D_load1 tabOk rfl rfl (v := .int .u64 d[i1]!) (fun w' hw => blkc hw (uA_get (by omega))) ?_
      repeat (first | refine D_pure tabOk rfl ?_)
      refine D_q (Q_idx1 tabOk rfl rfl rfl rfl rfl rfl rfl (j := a) (by omega) (by omega)) ?_
      refine D_load1 tabOk rfl rfl (v := .int .u64 d[a]!) (fun w' hw => blkc hw (uA_get (by omega))) ?_
      skip
      refine D_callx rfl Try.call84 (v := .bool false) (fun w' vs hw' h => by obtain ⟨u1, _, rfl, rfl, u2, _, rfl, rfl, rfl⟩ := h; exact less_b hb w') ?_
      repeat (first | refine D_all rfl ?_ | refine D_pure tabOk rfl ?_)
      refine T_cond_f rfl ?_
      repeat (first | refine pthen_normal ?_ | refine inb_hit ?_ | refine pthen_exit ?_ | refine T_exit ?_)
      exact ⟨(), trivial, by repeat (first | exact Sub.nil | refine Sub.cons rfl ?_), fun w' hw => hw⟩
    | true =>
      rw [up_step (p := fun x => ltI x d[a]!) hc hb] at hR
      repeat (first | refine T_draw (by kernel_rfl) (by kernel_rfl) ?_ | refine D_pure tabOk rfl ?_ | refine T_seq ?_)
      refine D_re 33 (v' := .bool true) rfl (congrArg Value.bool (decide_eq_true (by omega))) ?_
      repeat (first | refine D_pure tabOk rfl ?_)
      refine D_q (Q_idx1 tabOk rfl rfl rfl rfl rfl rfl rfl (j := t) (by omega) (by omega)) ?_
      refine D_load1 tabOk rfl rfl (v := .int .u64 d[t]!) (fun w' hw => blkc hw (uA_get (by omega))) ?_
      repeat (first | refine D_pure tabOk rfl ?_)
      refine D_q (Q_idx1 tabOk rfl rfl rfl rfl rfl rfl rfl (j := a) (by omega) (by omega)) ?_
      refine D_load1 tabOk rfl rfl (v := .int .u64 d[a]!) (fun w' hw => blkc hw (uA_get (by omega))) ?_
      skip
      refine D_callx rfl Try.call84 (v := .bool true) (fun w' vs hw' h => by obtain ⟨u1, _, rfl, rfl, u2, _, rfl, rfl, rfl⟩ := h; exact less_b hb w') ?_
      repeat (first | refine D_all rfl ?_ | refine D_pure tabOk rfl ?_)
      refine T_cond_t rfl ?_
      repeat (first | refine T_block ?_ | refine S_nil ?_ | refine pthen_normal ?_ | refine inb_normal ?_ | refine T_skip ?_ | refine S_i64 tabOk rfl (by omega) ?_ | refine S_pure tabOk rfl ?_ | refine T_region_any ?_)
      exact ⟨t + 1, ⟨by omega, by omega, hR⟩, (by repeat (first | exact Sub.nil | refine Sub.cons rfl ?_)), fun w' hw => hw, by omega⟩
  rintro _ _
  repeat (first | refine T_seq ?_)
  refine T_cut (ι := Unit) (fun _ => True) (fun _ => [(0, .slice (some ⟨g, 0, none⟩) n c), (1, .int .i64 (a : Int)), (2, .int .i64 (b : Int)), (10, .int .i64 (i1 : Int)), (11, .int .i64 (j1 : Int))]) (fun _ => uE g 59 d junk :: rest) ?_ ?_
  · refine T_block ?_
    refine T_loop (ι := Nat) (fun t => [(0, .slice (some ⟨g, 0, none⟩) n c), (1, .int .i64 (a : Int)), (2, .int .i64 (b : Int)), (10, .int .i64 (i1 : Int)), (11, .int .i64 (t : Int))]) (fun _ => uE g 59 d junk :: rest) (fun t => t ≤ jb ∧ i1 ≤ t + 1 ∧ j1 = scanDown (fun x => !ltI x d[a]!) d i1 t) (fun t => t) jb ⟨by omega, by omega, by assumption⟩ (by repeat (first | exact Sub.nil | refine Sub.cons rfl ?_)) (fun w' hw => hw) ?_
    rintro t ⟨ht1, ht2, hR⟩
    by_cases hc : i1 ≤ t
    rotate_left
    · rw [dn_stop (p := fun x => !ltI x d[a]!) (.inl hc) (by omega)] at hR
      subst hR
      repeat (first | refine T_draw (by kernel_rfl) (by kernel_rfl) ?_ | refine D_pure tabOk rfl ?_ | refine T_seq ?_)
      refine D_re 49 (v' := .bool false) rfl (congrArg Value.bool (decide_eq_false (by omega))) ?_
      repeat (first | refine D_all rfl ?_ | refine D_pure tabOk rfl ?_ | refine D_pass rfl rfl rfl ?_)
      refine T_cond_f rfl ?_
      repeat (first | refine pthen_normal ?_ | refine inb_hit ?_ | refine pthen_exit ?_ | refine T_exit ?_)
      exact ⟨(), trivial, by repeat (first | exact Sub.nil | refine Sub.cons rfl ?_), fun w' hw => hw⟩
    cases hb : ltI d[t]! d[a]! with
    | true =>
      rw [dn_stop (p := fun x => !ltI x d[a]!) (.inr (by show (!ltI d[t]! d[a]!) = false; rw [hb]; rfl)) (by omega)] at hR
      subst hR
      repeat (first | refine T_draw (by kernel_rfl) (by kernel_rfl) ?_ | refine D_pure tabOk rfl ?_ | refine T_seq ?_)
      refine D_re 49 (v' := .bool true) rfl (congrArg Value.bool (decide_eq_true (by omega))) ?_
      repeat (first | refine D_pure tabOk rfl ?_)
      refine D_q (Q_idx1 tabOk rfl rfl rfl rfl rfl rfl rfl (j := j1) (by omega) (by omega)) ?_
      refine D_load1 tabOk rfl rfl (v := .int .u64 d[j1]!) (fun w' hw => blkc hw (uA_get (by omega))) ?_
      repeat (first | refine D_pure tabOk rfl ?_)
      refine D_q (Q_idx1 tabOk rfl rfl rfl rfl rfl rfl rfl (j := a) (by omega) (by omega)) ?_
      refine D_load1 tabOk rfl rfl (v := .int .u64 d[a]!) (fun w' hw => blkc hw (uA_get (by omega))) ?_
      skip
      refine D_callx rfl Try.call84 (v := .bool true) (fun w' vs hw' h => by obtain ⟨u1, _, rfl, rfl, u2, _, rfl, rfl, rfl⟩ := h; exact less_b hb w') ?_
      repeat (first | refine D_all rfl ?_ | refine D_pure tabOk rfl ?_)
      refine T_cond_f rfl ?_
      repeat (first | refine pthen_normal ?_ | refine inb_hit ?_ | refine pthen_exit ?_ | refine T_exit ?_)
      exact ⟨(), trivial, by repeat (first | exact Sub.nil | refine Sub.cons rfl ?_), fun w' hw => hw⟩
    | false =>
      rw [dn_step (p := fun x => !ltI x d[a]!) hc (by omega) (by show (!ltI d[t]! d[a]!) = true; rw [hb]; rfl)] at hR
      repeat (first | refine T_draw (by kernel_rfl) (by kernel_rfl) ?_ | refine D_pure tabOk rfl ?_ | refine T_seq ?_)
      refine D_re 49 (v' := .bool true) rfl (congrArg Value.bool (decide_eq_true (by omega))) ?_
      repeat (first | refine D_pure tabOk rfl ?_)
      refine D_q (Q_idx1 tabOk rfl rfl rfl rfl rfl rfl rfl (j := t) (by omega) (by omega)) ?_
      refine D_load1 tabOk rfl rfl (v := .int .u64 d[t]!) (fun w' hw => blkc hw (uA_get (by omega))) ?_
      repeat (first | refine D_pure tabOk rfl ?_)
      refine D_q (Q_idx1 tabOk rfl rfl rfl rfl rfl rfl rfl (j := a) (by omega) (by omega)) ?_
      refine D_load1 tabOk rfl rfl (v := .int .u64 d[a]!) (fun w' hw => blkc hw (uA_get (by omega))) ?_
      skip
      refine D_callx rfl Try.call84 (v := .bool false) (fun w' vs hw' h => by obtain ⟨u1, _, rfl, rfl, u2, _, rfl, rfl, rfl⟩ := h; exact less_b hb w') ?_
      repeat (first | refine D_all rfl ?_ | refine D_pure tabOk rfl ?_)
      refine T_cond_t rfl ?_
      repeat (first | refine T_block ?_ | refine S_nil ?_ | refine pthen_normal ?_ | refine inb_normal ?_ | refine T_skip ?_ | refine S_i64 tabOk rfl (by omega) ?_ | refine S_pure tabOk rfl ?_ | refine T_region_any ?_)
      exact ⟨t - 1, ⟨by omega, by omega, hR⟩, (by repeat (first | exact Sub.nil | refine Sub.cons rfl ?_ | refine Sub.cons_int rfl (by omega) ?_)), fun w' hw => hw, by omega⟩
  rintro _ _
  repeat (first | refine T_seq ?_ | refine T_region ?_ | refine S_nil ?_ | refine S_pure tabOk rfl ?_)
  refine T_cond_dec rfl (fun hc => ?_) (fun hc => ?_)
  · rw [if_pos (by omega)] at hR
    subst hR
    repeat (first | refine T_seq ?_)
    have hs2 := swp_size d j1 a
    let ol0 : OL := uE g 59 d junk :: rest
    let ol1 : OL := .blk g (.cells ⟨(uA d junk).set j1 (.int .u64 d[a]!)⟩ 59 (0, 0)) true :: rest
    let ol2 : OL := uE g 59 (swp d j1 a) junk :: rest
    let olf : (Nat → Bool) → OL := fun L => match L 15 with
      | true => ol2
      | false => match L 13 with
        | true => ol1
        | false => ol0
    refine T_drawS (by kernel_rfl) (by kernel_rfl) [.slice (some ⟨g, 0, none⟩) n c, .int .i64 (j1 : Int), .slice (some ⟨g, 0, none⟩) n c, .int .i64 (a : Int), .slice (some ⟨g, 0, none⟩) n c, .int .i64 (a : Int), .pointer (some ⟨g, 0 + a, none⟩), .int .u64 d[a]!, .slice (some ⟨g, 0, none⟩) n c, .int .i64 (j1 : Int), .pointer (some ⟨g, 0 + j1, none⟩), .int .u64 d[j1]!, .pointer (some ⟨g, 0 + j1, none⟩), undef, .pointer (some ⟨g, 0 + a, none⟩), undef] rfl olf rfl ?_ (l' := [(0, .slice (some ⟨g, 0, none⟩) n c), (11, .int .i64 (j1 : Int))]) (ol' := ol2) (fun L h => by simp only [olf, h 15 (by decide)]) (by repeat (first | exact SubD.nil | refine SubD.cons rfl ?_)) ?_
    · refine ⟨?_, ?_, ?_, ?_, ?_, ?_, ?_, ?_, ?_, ?_, ?_, ?_, ?_, ?_, ?_, ?_, trivial⟩
      · exact fun L hc hl hp => OpS.ofD rfl (D_pure tabOk rfl D_last)
      · exact fun L hc hl hp => OpS.ofD rfl (D_pure tabOk rfl D_last)
      · exact fun L hc hl hp => OpS.ofD rfl (D_pure tabOk rfl D_last)
      · exact fun L hc hl hp => OpS.ofD rfl (D_pure tabOk rfl D_last)
      · exact fun L hc hl hp => OpS.ofD rfl (D_pure tabOk rfl D_last)
      · exact fun L hc hl hp => OpS.ofD rfl (D_pure tabOk rfl D_last)
      · exact fun L hc hl hp => OpS.ofD rfl (D_q (Q_idx1 tabOk rfl rfl rfl rfl rfl rfl rfl (j := a) (by omega) (by omega)) D_last)
      · intro L hc hl hp
        have h13 := closed_no hc (j := 13) rfl ⟨7, .data⟩ (by simp) rfl hl
        have h15 := closed_no hc (j := 15) rfl ⟨7, .phase⟩ (by simp) rfl hl
        have e1 : olf L = ol0 := by simp only [olf, h13, h15]
        have e2 : olf (add L 7) = ol0 := by simp [olf, add, h13, h15]
        rw [e1, e2]
        exact OpS.ofD rfl (D_load1 tabOk (v := .int .u64 d[a]!) rfl rfl (fun w' hw => blkc hw (uA_get (by omega))) D_last)
      · exact fun L hc hl hp => OpS.ofD rfl (D_pure tabOk rfl D_last)
      · exact fun L hc hl hp => OpS.ofD rfl (D_pure tabOk rfl D_last)
      · exact fun L hc hl hp => OpS.ofD rfl (D_q (Q_idx1 tabOk rfl rfl rfl rfl rfl rfl rfl (j := j1) (by omega) (by omega)) D_last)
      · intro L hc hl hp
        have h13 := closed_no hc (j := 13) rfl ⟨11, .phase⟩ (by simp) rfl hl
        have h15 := closed_no hc (j := 15) rfl ⟨11, .data⟩ (by simp) rfl hl
        have e1 : olf L = ol0 := by simp only [olf, h13, h15]
        have e2 : olf (add L 11) = ol0 := by simp [olf, add, h13, h15]
        rw [e1, e2]
        exact OpS.ofD rfl (D_load1 tabOk (v := .int .u64 d[j1]!) rfl rfl (fun w' hw => blkc hw (uA_get (by omega))) D_last)
      · exact fun L hc hl hp => OpS.ofD rfl (D_q (Q_idx1 tabOk rfl rfl rfl rfl rfl rfl rfl (j := j1) (by omega) (by omega)) D_last)
      · intro L hc hl hp
        have h15 := closed_no hc (j := 15) rfl ⟨13, .chain⟩ (by simp) rfl hl
        have e1 : olf L = ol0 := by simp only [olf, hl, h15]
        have e2 : olf (add L 13) = ol1 := by simp [olf, add, h15]
        rw [e1, e2]
        exact OpS.store tabOk 0 rfl rfl (by intro x hx; rw [List.mem_singleton] at hx; subst hx; rfl) rfl (by rw [Nat.zero_add]; exact setMany_1 (by rw [uA_len]; omega)) rfl
      · exact fun L hc hl hp => OpS.ofD rfl (D_q (Q_idx1 tabOk rfl rfl rfl rfl rfl rfl rfl (j := a) (by omega) (by omega)) D_last)
      · intro L hc hl hp
        have h13 : L 13 = true := hp ⟨13, .chain⟩ (by simp) rfl
        have e1 : olf L = ol1 := by simp only [olf, h13, hl]
        have e2 : olf (add L 15) = ol2 := by simp [olf, add]
        rw [e1, e2]
        exact OpS.store tabOk 0 rfl rfl (by intro x hx; rw [List.mem_singleton] at hx; subst hx; rfl) rfl (by rw [Nat.zero_add]; exact (setMany_1 (by rw [List.length_set, uA_len]; omega)).trans (congrArg some (uA_swp (by omega) (by omega)))) rfl
    clear olf ol0 ol1
    dsimp only [ol2]
    clear ol2
    repeat (first | refine T_seq ?_ | refine T_region ?_ | refine S_nil ?_ | refine pthen_ret ?_ | refine T_ret ?_ | refine S_pure tabOk rfl ?_)
    exact ret2 rfl rfl rfl (fun w' hw => ⟨rfl, hw, by first | omega | (dsimp only; omega)⟩)
  rw [if_neg (by omega)] at hR
  have hij := f5 (by omega)
  repeat (first | refine T_seq ?_ | refine T_skip ?_ | refine pthen_normal ?_)
  have hs2 := swp_size d i1 j1
  let ol0 : OL := uE g 59 d junk :: rest
  let ol1 : OL := .blk g (.cells ⟨(uA d junk).set i1 (.int .u64 d[j1]!)⟩ 59 (0, 0)) true :: rest
  let ol2 : OL := uE g 59 (swp d i1 j1) junk :: rest
  let olf : (Nat → Bool) → OL := fun L => match L 15 with
    | true => ol2
    | false => match L 13 with
      | true => ol1
      | false => ol0
  refine T_drawS (by kernel_rfl) (by kernel_rfl) [.slice (some ⟨g, 0, none⟩) n c, .int .i64 (i1 : Int), .slice (some ⟨g, 0, none⟩) n c, .int .i64 (j1 : Int), .slice (some ⟨g, 0, none⟩) n c, .int .i64 (j1 : Int), .pointer (some ⟨g, 0 + j1, none⟩), .int .u64 d[j1]!, .slice (some ⟨g, 0, none⟩) n c, .int .i64 (i1 : Int), .pointer (some ⟨g, 0 + i1, none⟩), .int .u64 d[i1]!, .pointer (some ⟨g, 0 + i1, none⟩), undef, .pointer (some ⟨g, 0 + j1, none⟩), undef] rfl olf rfl ?_ (l' := [(0, .slice (some ⟨g, 0, none⟩) n c), (1, .int .i64 (a : Int)), (2, .int .i64 (b : Int)), (10, .int .i64 (i1 : Int)), (11, .int .i64 (j1 : Int))]) (ol' := ol2) (fun L h => by simp only [olf, h 15 (by decide)]) (by repeat (first | exact SubD.nil | refine SubD.cons rfl ?_)) ?_
  · refine ⟨?_, ?_, ?_, ?_, ?_, ?_, ?_, ?_, ?_, ?_, ?_, ?_, ?_, ?_, ?_, ?_, trivial⟩
    · exact fun L hc hl hp => OpS.ofD rfl (D_pure tabOk rfl D_last)
    · exact fun L hc hl hp => OpS.ofD rfl (D_pure tabOk rfl D_last)
    · exact fun L hc hl hp => OpS.ofD rfl (D_pure tabOk rfl D_last)
    · exact fun L hc hl hp => OpS.ofD rfl (D_pure tabOk rfl D_last)
    · exact fun L hc hl hp => OpS.ofD rfl (D_pure tabOk rfl D_last)
    · exact fun L hc hl hp => OpS.ofD rfl (D_pure tabOk rfl D_last)
    · exact fun L hc hl hp => OpS.ofD rfl (D_q (Q_idx1 tabOk rfl rfl rfl rfl rfl rfl rfl (j := j1) (by omega) (by omega)) D_last)
    · intro L hc hl hp
      have h13 := closed_no hc (j := 13) rfl ⟨7, .data⟩ (by simp) rfl hl
      have h15 := closed_no hc (j := 15) rfl ⟨7, .phase⟩ (by simp) rfl hl
      have e1 : olf L = ol0 := by simp only [olf, h13, h15]
      have e2 : olf (add L 7) = ol0 := by simp [olf, add, h13, h15]
      rw [e1, e2]
      exact OpS.ofD rfl (D_load1 tabOk (v := .int .u64 d[j1]!) rfl rfl (fun w' hw => blkc hw (uA_get (by omega))) D_last)
    · exact fun L hc hl hp => OpS.ofD rfl (D_pure tabOk rfl D_last)
    · exact fun L hc hl hp => OpS.ofD rfl (D_pure tabOk rfl D_last)
    · exact fun L hc hl hp => OpS.ofD rfl (D_q (Q_idx1 tabOk rfl rfl rfl rfl rfl rfl rfl (j := i1) (by omega) (by omega)) D_last)
    · intro L hc hl hp
      have h13 := closed_no hc (j := 13) rfl ⟨11, .phase⟩ (by simp) rfl hl
      have h15 := closed_no hc (j := 15) rfl ⟨11, .data⟩ (by simp) rfl hl
      have e1 : olf L = ol0 := by simp only [olf, h13, h15]
      have e2 : olf (add L 11) = ol0 := by simp [olf, add, h13, h15]
      rw [e1, e2]
      exact OpS.ofD rfl (D_load1 tabOk (v := .int .u64 d[i1]!) rfl rfl (fun w' hw => blkc hw (uA_get (by omega))) D_last)
    · exact fun L hc hl hp => OpS.ofD rfl (D_q (Q_idx1 tabOk rfl rfl rfl rfl rfl rfl rfl (j := i1) (by omega) (by omega)) D_last)
    · intro L hc hl hp
      have h15 := closed_no hc (j := 15) rfl ⟨13, .chain⟩ (by simp) rfl hl
      have e1 : olf L = ol0 := by simp only [olf, hl, h15]
      have e2 : olf (add L 13) = ol1 := by simp [olf, add, h15]
      rw [e1, e2]
      exact OpS.store tabOk 0 rfl rfl (by intro x hx; rw [List.mem_singleton] at hx; subst hx; rfl) rfl (by rw [Nat.zero_add]; exact setMany_1 (by rw [uA_len]; omega)) rfl
    · exact fun L hc hl hp => OpS.ofD rfl (D_q (Q_idx1 tabOk rfl rfl rfl rfl rfl rfl rfl (j := j1) (by omega) (by omega)) D_last)
    · intro L hc hl hp
      have h13 : L 13 = true := hp ⟨13, .chain⟩ (by simp) rfl
      have e1 : olf L = ol1 := by simp only [olf, h13, hl]
      have e2 : olf (add L 15) = ol2 := by simp [olf, add]
      rw [e1, e2]
      exact OpS.store tabOk 0 rfl rfl (by intro x hx; rw [List.mem_singleton] at hx; subst hx; rfl) rfl (by rw [Nat.zero_add]; exact (setMany_1 (by rw [List.length_set, uA_len]; omega)).trans (congrArg some (uA_swp (by omega) (by omega)))) rfl
  clear olf ol0 ol1
  dsimp only [ol2]
  clear ol2
  repeat (first | refine T_seq ?_ | refine T_region ?_ | refine S_nil ?_ | refine S_i64 tabOk rfl (by omega) ?_ | refine S_pure tabOk rfl ?_)
  skip
  obtain ⟨d2, hd2⟩ : ∃ d2, d2 = swp d i1 j1 := ⟨_, rfl⟩
  rw [← hd2] at hR hs2 ⊢
  obtain ⟨R2, hR2⟩ : ∃ R, R = partLoop ltI a (i1 + 1) (j1 - 1) d2 := ⟨_, rfl⟩
  rw [← hR2] at hR
  clear hd2 hi1 hj1
  refine T_block ?_
  refine T_loop (ι := SrJ) (fun t => [(0, .slice (some ⟨g, 0, none⟩) n c), (1, .int .i64 (a : Int)), (2, .int .i64 (b : Int)), (10, .int .i64 (t.i : Int)), (11, .int .i64 (t.j : Int))]) (fun t => uE g 59 t.d junk :: rest) (fun t => a < t.i ∧ t.i ≤ t.j + 1 ∧ t.j < b ∧ t.d.size = n ∧ R2 = partLoop ltI a t.i t.j t.d) (fun t => t.j + 1 - t.i) ⟨i1 + 1, j1 - 1, d2⟩ ⟨by dsimp only; omega, by dsimp only; omega, by dsimp only; omega, by dsimp only; omega, hR2⟩ (by dsimp only; repeat (first | exact Sub.nil | refine Sub.cons rfl ?_ | refine Sub.cons_int rfl (by omega) ?_)) (fun w' hw => hw) ?_
  clear hR2
  rintro ⟨i, j, e⟩ ⟨ha, hij1, hjb, he, hR2⟩
  dsimp only at ha hij1 hjb he hR2 ⊢
  obtain ⟨i1, hi1⟩ : ∃ i1, i1 = scanUp (fun x => ltI x e[a]!) e j i := ⟨_, rfl⟩
  obtain ⟨j1, hj1⟩ : ∃ j1, j1 = scanDown (fun x => !ltI x e[a]!) e i1 j := ⟨_, rfl⟩
  obtain ⟨f1, f2, f3, f4, f5⟩ := scan2 (fun x => ltI x e[a]!) (fun x => !ltI x e[a]!) (fun _ => rfl) e (i := i) (j := j) (by omega) (by omega)
  rw [← hi1, ← hj1] at f3 f4 f5
  rw [← hi1] at f1 f2
  rw [partLoop_eq, ← hi1, ← hj1] at hR2
  skip
  refine T_block ?_
  repeat (first | refine T_seq ?_)
  refine T_cut (ι := Unit) (fun _ => True) (fun _ => [(0, .slice (some ⟨g, 0, none⟩) n c), (1, .int .i64 (a : Int)), (2, .int .i64 (b : Int)), (11, .int .i64 (j : Int)), (10, .int .i64 (i1 : Int))]) (fun _ => uE g 59 e junk :: rest) ?_ ?_
  · refine T_block ?_
    refine T_loop (ι := Nat) (fun t => [(0, .slice (some ⟨g, 0, none⟩) n c), (1, .int .i64 (a : Int)), (2, .int .i64 (b : Int)), (11, .int .i64 (j : Int)), (10, .int .i64 (t : Int))]) (fun _ => uE g 59 e junk :: rest) (fun t => i ≤ t ∧ t ≤ j + 1 ∧ i1 = scanUp (fun x => ltI x e[a]!) e j t) (fun t => j + 1 - t) i ⟨by omega, by omega, by assumption⟩ (by repeat (first | exact Sub.nil | refine Sub.cons rfl ?_)) (fun w' hw => hw) ?_
    rintro t ⟨ht1, ht2, hR⟩
    by_cases hc : t ≤ j
    rotate_left
    · rw [up_stop (p := fun x => ltI x e[a]!) (.inl hc)] at hR
      subst hR
      repeat (first | refine T_draw (by kernel_rfl) (by kernel_rfl) ?_ | refine D_pure tabOk rfl ?_ | refine T_seq ?_)
      refine D_re 102 (v' := .bool false) rfl (congrArg Value.bool (decide_eq_false (by omega))) ?_
      repeat (first | refine D_all rfl ?_ | refine D_pure tabOk rfl ?_ | refine D_pass rfl rfl rfl ?_)
      refine T_cond_f rfl ?_
      repeat (first | refine pthen_normal ?_ | refine inb_hit ?_ | refine pthen_exit ?_ | refine T_exit ?_)
      exact ⟨(), trivial, by repeat (first | exact Sub.nil | refine Sub.cons rfl ?_), fun w' hw => hw⟩
    cases hb : ltI e[t]! e[a]! with
    | false =>
      rw [up_stop (p := fun x => ltI x e[a]!) (.inr hb)] at hR
      subst hR
      repeat (first | refine T_draw (by kernel_rfl) (by kernel_rfl) ?_ | refine D_pure tabOk rfl ?_ | refine T_seq ?_)
      refine D_re 102 (v' := .bool true) rfl (congrArg Value.bool (decide_eq_true (by omega))) ?_
      repeat (first | refine D_pure tabOk rfl ?_)
      refine D_q (Q_idx1 tabOk rfl rfl rfl rfl rfl rfl rfl (j := i1) (by omega) (by omega)) ?_
      refine D_load1 tabOk rfl rfl (v := .int .u64 e[i1]!) (fun w' hw => blkc hw (uA_get (by omega))) ?_
      repeat (first | refine D_pure tabOk rfl ?_)
      refine D_q (Q_idx1 tabOk rfl rfl rfl rfl rfl rfl rfl (j := a) (by omega) (by omega)) ?_
      refine D_load1 tabOk rfl rfl (v := .int .u64 e[a]!) (fun w' hw => blkc hw (uA_get (by omega))) ?_
      skip
      refine D_callx rfl Try.call84 (v := .bool false) (fun w' vs hw' h => by obtain ⟨u1, _, rfl, rfl, u2, _, rfl, rfl, rfl⟩ := h; exact less_b hb w') ?_
      repeat (first | refine D_all rfl ?_ | refine D_pure tabOk rfl ?_)
      refine T_cond_f rfl ?_
      repeat (first | refine pthen_normal ?_ | refine inb_hit ?_ | refine pthen_exit ?_ | refine T_exit ?_)
      exact ⟨(), trivial, by repeat (first | exact Sub.nil | refine Sub.cons rfl ?_), fun w' hw => hw⟩
    | true =>
      rw [up_step (p := fun x => ltI x e[a]!) hc hb] at hR
      repeat (first | refine T_draw (by kernel_rfl) (by kernel_rfl) ?_ | refine D_pure tabOk rfl ?_ | refine T_seq ?_)
      refine D_re 102 (v' := .bool true) rfl (congrArg Value.bool (decide_eq_true (by omega))) ?_
      repeat (first | refine D_pure tabOk rfl ?_)
      refine D_q (Q_idx1 tabOk rfl rfl rfl rfl rfl rfl rfl (j := t) (by omega) (by omega)) ?_
      refine D_load1 tabOk rfl rfl (v := .int .u64 e[t]!) (fun w' hw => blkc hw (uA_get (by omega))) ?_
      repeat (first | refine D_pure tabOk rfl ?_)
      refine D_q (Q_idx1 tabOk rfl rfl rfl rfl rfl rfl rfl (j := a) (by omega) (by omega)) ?_
      refine D_load1 tabOk rfl rfl (v := .int .u64 e[a]!) (fun w' hw => blkc hw (uA_get (by omega))) ?_
      skip
      refine D_callx rfl Try.call84 (v := .bool true) (fun w' vs hw' h => by obtain ⟨u1, _, rfl, rfl, u2, _, rfl, rfl, rfl⟩ := h; exact less_b hb w') ?_
      repeat (first | refine D_all rfl ?_ | refine D_pure tabOk rfl ?_)
      refine T_cond_t rfl ?_
      repeat (first | refine T_block ?_ | refine S_nil ?_ | refine pthen_normal ?_ | refine inb_normal ?_ | refine T_skip ?_ | refine S_i64 tabOk rfl (by omega) ?_ | refine S_pure tabOk rfl ?_ | refine T_region_any ?_)
      exact ⟨t + 1, ⟨by omega, by omega, hR⟩, (by repeat (first | exact Sub.nil | refine Sub.cons rfl ?_)), fun w' hw => hw, by omega⟩
  rintro _ _
  repeat (first | refine T_seq ?_)
  refine T_cut (ι := Unit) (fun _ => True) (fun _ => [(0, .slice (some ⟨g, 0, none⟩) n c), (1, .int .i64 (a : Int)), (2, .int .i64 (b : Int)), (10, .int .i64 (i1 : Int)), (11, .int .i64 (j1 : Int))]) (fun _ => uE g 59 e junk :: rest) ?_ ?_
  · refine T_block ?_
    refine T_loop (ι := Nat) (fun t => [(0, .slice (some ⟨g, 0, none⟩) n c), (1, .int .i64 (a : Int)), (2, .int .i64 (b : Int)), (10, .int .i64 (i1 : Int)), (11, .int .i64 (t : Int))]) (fun _ => uE g 59 e junk :: rest) (fun t => t ≤ j ∧ i1 ≤ t + 1 ∧ j1 = scanDown (fun x => !ltI x e[a]!) e i1 t) (fun t => t) j ⟨by omega, by omega, by assumption⟩ (by repeat (first | exact Sub.nil | refine Sub.cons rfl ?_)) (fun w' hw => hw) ?_
    rintro t ⟨ht1, ht2, hR⟩
    by_cases hc : i1 ≤ t
    rotate_left
    · rw [dn_stop (p := fun x => !ltI x e[a]!) (.inl hc) (by omega)] at hR
      subst hR
      repeat (first | refine T_draw (by kernel_rfl) (by kernel_rfl) ?_ | refine D_pure tabOk rfl ?_ | refine T_seq ?_)
      refine D_re 118 (v' := .bool false) rfl (congrArg Value.bool (decide_eq_false (by omega))) ?_
      repeat (first | refine D_all rfl ?_ | refine D_pure tabOk rfl ?_ | refine D_pass rfl rfl rfl ?_)
      refine T_cond_f rfl ?_
      repeat (first | refine pthen_normal ?_ | refine inb_hit ?_ | refine pthen_exit ?_ | refine T_exit ?_)
      exact ⟨(), trivial, by repeat (first | exact Sub.nil | refine Sub.cons rfl ?_), fun w' hw => hw⟩
    cases hb : ltI e[t]! e[a]! with
    | true =>
      rw [dn_stop (p := fun x => !ltI x e[a]!) (.inr (by show (!ltI e[t]! e[a]!) = false; rw [hb]; rfl)) (by omega)] at hR
      subst hR
      repeat (first | refine T_draw (by kernel_rfl) (by kernel_rfl) ?_ | refine D_pure tabOk rfl ?_ | refine T_seq ?_)
      refine D_re 118 (v' := .bool true) rfl (congrArg Value.bool (decide_eq_true (by omega))) ?_
      repeat (first | refine D_pure tabOk rfl ?_)
      refine D_q (Q_idx1 tabOk rfl rfl rfl rfl rfl rfl rfl (j := j1) (by omega) (by omega)) ?_
      refine D_load1 tabOk rfl rfl (v := .int .u64 e[j1]!) (fun w' hw => blkc hw (uA_get (by omega))) ?_
      repeat (first | refine D_pure tabOk rfl ?_)
      refine D_q (Q_idx1 tabOk rfl rfl rfl rfl rfl rfl rfl (j := a) (by omega) (by omega)) ?_
      refine D_load1 tabOk rfl rfl (v := .int .u64 e[a]!) (fun w' hw => blkc hw (uA_get (by omega))) ?_
      skip
      refine D_callx rfl Try.call84 (v := .bool true) (fun w' vs hw' h => by obtain ⟨u1, _, rfl, rfl, u2, _, rfl, rfl, rfl⟩ := h; exact less_b hb w') ?_
      repeat (first | refine D_all rfl ?_ | refine D_pure tabOk rfl ?_)
      refine T_cond_f rfl ?_
      repeat (first | refine pthen_normal ?_ | refine inb_hit ?_ | refine pthen_exit ?_ | refine T_exit ?_)
      exact ⟨(), trivial, by repeat (first | exact Sub.nil | refine Sub.cons rfl ?_), fun w' hw => hw⟩
    | false =>
      rw [dn_step (p := fun x => !ltI x e[a]!) hc (by omega) (by show (!ltI e[t]! e[a]!) = true; rw [hb]; rfl)] at hR
      repeat (first | refine T_draw (by kernel_rfl) (by kernel_rfl) ?_ | refine D_pure tabOk rfl ?_ | refine T_seq ?_)
      refine D_re 118 (v' := .bool true) rfl (congrArg Value.bool (decide_eq_true (by omega))) ?_
      repeat (first | refine D_pure tabOk rfl ?_)
      refine D_q (Q_idx1 tabOk rfl rfl rfl rfl rfl rfl rfl (j := t) (by omega) (by omega)) ?_
      refine D_load1 tabOk rfl rfl (v := .int .u64 e[t]!) (fun w' hw => blkc hw (uA_get (by omega))) ?_
      repeat (first | refine D_pure tabOk rfl ?_)
      refine D_q (Q_idx1 tabOk rfl rfl rfl rfl rfl rfl rfl (j := a) (by omega) (by omega)) ?_
      refine D_load1 tabOk rfl rfl (v := .int .u64 e[a]!) (fun w' hw => blkc hw (uA_get (by omega))) ?_
      skip
      refine D_callx rfl Try.call84 (v := .bool false) (fun w' vs hw' h => by obtain ⟨u1, _, rfl, rfl, u2, _, rfl, rfl, rfl⟩ := h; exact less_b hb w') ?_
      repeat (first | refine D_all rfl ?_ | refine D_pure tabOk rfl ?_)
      refine T_cond_t rfl ?_
      repeat (first | refine T_block ?_ | refine S_nil ?_ | refine pthen_normal ?_ | refine inb_normal ?_ | refine T_skip ?_ | refine S_i64 tabOk rfl (by omega) ?_ | refine S_pure tabOk rfl ?_ | refine T_region_any ?_)
      exact ⟨t - 1, ⟨by omega, by omega, hR⟩, (by repeat (first | exact Sub.nil | refine Sub.cons rfl ?_ | refine Sub.cons_int rfl (by omega) ?_)), fun w' hw => hw, by omega⟩
  rintro _ _
  repeat (first | refine T_seq ?_ | refine T_region ?_ | refine S_nil ?_ | refine S_pure tabOk rfl ?_)
  refine T_cond_dec rfl (fun hc => ?_) (fun hc => ?_)
  · rw [if_pos (by omega)] at hR2
    subst hR2
    repeat (first | refine pthen_exit ?_ | refine T_exit ?_)
    refine inb_miss rfl ?_
    repeat (first | refine T_seq ?_ | refine pthen_normal ?_ | refine pthen_exit ?_ | refine inb_hit ?_)
    have hs3 := swp_size e j1 a
    let ol0 : OL := uE g 59 e junk :: rest
    let ol1 : OL := .blk g (.cells ⟨(uA e junk).set j1 (.int .u64 e[a]!)⟩ 59 (0, 0)) true :: rest
    let ol2 : OL := uE g 59 (swp e j1 a) junk :: rest
    let olf : (Nat → Bool) → OL := fun L => match L 15 with
      | true => ol2
      | false => match L 13 with
        | true => ol1
        | false => ol0
    refine T_drawS (by kernel_rfl) (by kernel_rfl) [.slice (some ⟨g, 0, none⟩) n c, .int .i64 (j1 : Int), .slice (some ⟨g, 0, none⟩) n c, .int .i64 (a : Int), .slice (some ⟨g, 0, none⟩) n c, .int .i64 (a : Int), .pointer (some ⟨g, 0 + a, none⟩), .int .u64 e[a]!, .slice (some ⟨g, 0, none⟩) n c, .int .i64 (j1 : Int), .pointer (some ⟨g, 0 + j1, none⟩), .int .u64 e[j1]!, .pointer (some ⟨g, 0 + j1, none⟩), undef, .pointer (some ⟨g, 0 + a, none⟩), undef] rfl olf rfl ?_ (l' := [(0, .slice (some ⟨g, 0, none⟩) n c), (11, .int .i64 (j1 : Int))]) (ol' := ol2) (fun L h => by simp only [olf, h 15 (by decide)]) (by repeat (first | exact SubD.nil | refine SubD.cons rfl ?_)) ?_
    · refine ⟨?_, ?_, ?_, ?_, ?_, ?_, ?_, ?_, ?_, ?_, ?_, ?_, ?_, ?_, ?_, ?_, trivial⟩
      · exact fun L hc hl hp => OpS.ofD rfl (D_pure tabOk rfl D_last)
      · exact fun L hc hl hp => OpS.ofD rfl (D_pure tabOk rfl D_last)
      · exact fun L hc hl hp => OpS.ofD rfl (D_pure tabOk rfl D_last)
      · exact fun L hc hl hp => OpS.ofD rfl (D_pure tabOk rfl D_last)
      · exact fun L hc hl hp => OpS.ofD rfl (D_pure tabOk rfl D_last)
      · exact fun L hc hl hp => OpS.ofD rfl (D_pure tabOk rfl D_last)
      · exact fun L hc hl hp => OpS.ofD rfl (D_q (Q_idx1 tabOk rfl rfl rfl rfl rfl rfl rfl (j := a) (by omega) (by omega)) D_last)
      · intro L hc hl hp
        have h13 := closed_no hc (j := 13) rfl ⟨7, .data⟩ (by simp) rfl hl
        have h15 := closed_no hc (j := 15) rfl ⟨7, .phase⟩ (by simp) rfl hl
        have e1 : olf L = ol0 := by simp only [olf, h13, h15]
        have e2 : olf (add L 7) = ol0 := by simp [olf, add, h13, h15]
        rw [e1, e2]
        exact OpS.ofD rfl (D_load1 tabOk (v := .int .u64 e[a]!) rfl rfl (fun w' hw => blkc hw (uA_get (by omega))) D_last)
      · exact fun L hc hl hp => OpS.ofD rfl (D_pure tabOk rfl D_last)
      · exact fun L hc hl hp => OpS.ofD rfl (D_pure tabOk rfl D_last)
      · exact fun L hc hl hp => OpS.ofD rfl (D_q (Q_idx1 tabOk rfl rfl rfl rfl rfl rfl rfl (j := j1) (by omega) (by omega)) D_last)
      · intro L hc hl hp
        have h13 := closed_no hc (j := 13) rfl ⟨11, .phase⟩ (by simp) rfl hl
        have h15 := closed_no hc (j := 15) rfl ⟨11, .data⟩ (by simp) rfl hl
        have e1 : olf L = ol0 := by simp only [olf, h13, h15]
        have e2 : olf (add L 11) = ol0 := by simp [olf, add, h13, h15]
        rw [e1, e2]
        exact OpS.ofD rfl (D_load1 tabOk (v := .int .u64 e[j1]!) rfl rfl (fun w' hw => blkc hw (uA_get (by omega))) D_last)
      · exact fun L hc hl hp => OpS.ofD rfl (D_q (Q_idx1 tabOk rfl rfl rfl rfl rfl rfl rfl (j := j1) (by omega) (by omega)) D_last)
      · intro L hc hl hp
        have h15 := closed_no hc (j := 15) rfl ⟨13, .chain⟩ (by simp) rfl hl
        have e1 : olf L = ol0 := by simp only [olf, hl, h15]
        have e2 : olf (add L 13) = ol1 := by simp [olf, add, h15]
        rw [e1, e2]
        exact OpS.store tabOk 0 rfl rfl (by intro x hx; rw [List.mem_singleton] at hx; subst hx; rfl) rfl (by rw [Nat.zero_add]; exact setMany_1 (by rw [uA_len]; omega)) rfl
      · exact fun L hc hl hp => OpS.ofD rfl (D_q (Q_idx1 tabOk rfl rfl rfl rfl rfl rfl rfl (j := a) (by omega) (by omega)) D_last)
      · intro L hc hl hp
        have h13 : L 13 = true := hp ⟨13, .chain⟩ (by simp) rfl
        have e1 : olf L = ol1 := by simp only [olf, h13, hl]
        have e2 : olf (add L 15) = ol2 := by simp [olf, add]
        rw [e1, e2]
        exact OpS.store tabOk 0 rfl rfl (by intro x hx; rw [List.mem_singleton] at hx; subst hx; rfl) rfl (by rw [Nat.zero_add]; exact (setMany_1 (by rw [List.length_set, uA_len]; omega)).trans (congrArg some (uA_swp (by omega) (by omega)))) rfl
    clear olf ol0 ol1
    dsimp only [ol2]
    clear ol2
    repeat (first | refine T_seq ?_ | refine T_region ?_ | refine S_nil ?_ | refine T_ret ?_ | refine S_pure tabOk rfl ?_)
    subst hR
    exact ret2 rfl rfl rfl (fun w' hw => ⟨rfl, hw, by first | omega | (dsimp only; omega)⟩)
  rw [if_neg (by omega)] at hR2
  have hij := f5 (by omega)
  repeat (first | refine T_seq ?_ | refine T_skip ?_ | refine pthen_normal ?_)
  have hs3 := swp_size e i1 j1
  let ol0 : OL := uE g 59 e junk :: rest
  let ol1 : OL := .blk g (.cells ⟨(uA e junk).set i1 (.int .u64 e[j1]!)⟩ 59 (0, 0)) true :: rest
  let ol2 : OL := uE g 59 (swp e i1 j1) junk :: rest
  let olf : (Nat → Bool) → OL := fun L => match L 15 with
    | true => ol2
    | false => match L 13 with
      | true => ol1
      | false => ol0
  refine T_drawS (by kernel_rfl) (by kernel_rfl) [.slice (some ⟨g, 0, none⟩) n c, .int .i64 (i1 : Int), .slice (some ⟨g, 0, none⟩) n c, .int .i64 (j1 : Int), .slice (some ⟨g, 0, none⟩) n c, .int .i64 (j1 : Int), .pointer (some ⟨g, 0 + j1, none⟩), .int .u64 e[j1]!, .slice (some ⟨g, 0, none⟩) n c, .int .i64 (i1 : Int), .pointer (some ⟨g, 0 + i1, none⟩), .int .u64 e[i1]!, .pointer (some ⟨g, 0 + i1, none⟩), undef, .pointer (some ⟨g, 0 + j1, none⟩), undef] rfl olf rfl ?_ (l' := [(0, .slice (some ⟨g, 0, none⟩) n c), (1, .int .i64 (a : Int)), (2, .int .i64 (b : Int)), (10, .int .i64 (i1 : Int)), (11, .int .i64 (j1 : Int))]) (ol' := ol2) (fun L h => by simp only [olf, h 15 (by decide)]) (by repeat (first | exact SubD.nil | refine SubD.cons rfl ?_)) ?_
  · refine ⟨?_, ?_, ?_, ?_, ?_, ?_, ?_, ?_, ?_, ?_, ?_, ?_, ?_, ?_, ?_, ?_, trivial⟩
    · exact fun L hc hl hp => OpS.ofD rfl (D_pure tabOk rfl D_last)
    · exact fun L hc hl hp => OpS.ofD rfl (D_pure tabOk rfl D_last)
    · exact fun L hc hl hp => OpS.ofD rfl (D_pure tabOk rfl D_last)
    · exact fun L hc hl hp => OpS.ofD rfl (D_pure tabOk rfl D_last)
    · exact fun L hc hl hp => OpS.ofD rfl (D_pure tabOk rfl D_last)
    · exact fun L hc hl hp => OpS.ofD rfl (D_pure tabOk rfl D_last)
    · exact fun L hc hl hp => OpS.ofD rfl (D_q (Q_idx1 tabOk rfl rfl rfl rfl rfl rfl rfl (j := j1) (by omega) (by omega)) D_last)
    · intro L hc hl hp
      have h13 := closed_no hc (j := 13) rfl ⟨7, .data⟩ (by simp) rfl hl
      have h15 := closed_no hc (j := 15) rfl ⟨7, .phase⟩ (by simp) rfl hl
      have e1 : olf L = ol0 := by simp only [olf, h13, h15]
      have e2 : olf (add L 7) = ol0 := by simp [olf, add, h13, h15]
      rw [e1, e2]
      exact OpS.ofD rfl (D_load1 tabOk (v := .int .u64 e[j1]!) rfl rfl (fun w' hw => blkc hw (uA_get (by omega))) D_last)
    · exact fun L hc hl hp => OpS.ofD rfl (D_pure tabOk rfl D_last)
    · exact fun L hc hl hp => OpS.ofD rfl (D_pure tabOk rfl D_last)
    · exact fun L hc hl hp => OpS.ofD rfl (D_q (Q_idx1 tabOk rfl rfl rfl rfl rfl rfl rfl (j := i1) (by omega) (by omega)) D_last)
    · intro L hc hl hp
      have h13 := closed_no hc (j := 13) rfl ⟨11, .phase⟩ (by simp) rfl hl
      have h15 := closed_no hc (j := 15) rfl ⟨11, .data⟩ (by simp) rfl hl
      have e1 : olf L = ol0 := by simp only [olf, h13, h15]
      have e2 : olf (add L 11) = ol0 := by simp [olf, add, h13, h15]
      rw [e1, e2]
      exact OpS.ofD rfl (D_load1 tabOk (v := .int .u64 e[i1]!) rfl rfl (fun w' hw => blkc hw (uA_get (by omega))) D_last)
    · exact fun L hc hl hp => OpS.ofD rfl (D_q (Q_idx1 tabOk rfl rfl rfl rfl rfl rfl rfl (j := i1) (by omega) (by omega)) D_last)
    · intro L hc hl hp
      have h15 := closed_no hc (j := 15) rfl ⟨13, .chain⟩ (by simp) rfl hl
      have e1 : olf L = ol0 := by simp only [olf, hl, h15]
      have e2 : olf (add L 13) = ol1 := by simp [olf, add, h15]
      rw [e1, e2]
      exact OpS.store tabOk 0 rfl rfl (by intro x hx; rw [List.mem_singleton] at hx; subst hx; rfl) rfl (by rw [Nat.zero_add]; exact setMany_1 (by rw [uA_len]; omega)) rfl
    · exact fun L hc hl hp => OpS.ofD rfl (D_q (Q_idx1 tabOk rfl rfl rfl rfl rfl rfl rfl (j := j1) (by omega) (by omega)) D_last)
    · intro L hc hl hp
      have h13 : L 13 = true := hp ⟨13, .chain⟩ (by simp) rfl
      have e1 : olf L = ol1 := by simp only [olf, h13, hl]
      have e2 : olf (add L 15) = ol2 := by simp [olf, add]
      rw [e1, e2]
      exact OpS.store tabOk 0 rfl rfl (by intro x hx; rw [List.mem_singleton] at hx; subst hx; rfl) rfl (by rw [Nat.zero_add]; exact (setMany_1 (by rw [List.length_set, uA_len]; omega)).trans (congrArg some (uA_swp (by omega) (by omega)))) rfl
  clear olf ol0 ol1
  dsimp only [ol2]
  clear ol2
  repeat (first | refine T_seq ?_ | refine T_region ?_ | refine S_nil ?_ | refine pthen_normal ?_ | refine inb_normal ?_ | refine S_i64 tabOk rfl (by omega) ?_ | refine S_pure tabOk rfl ?_ | refine T_region_any ?_)
  exact ⟨⟨i1 + 1, j1 - 1, swp e i1 j1⟩, ⟨by dsimp only; omega, by dsimp only; omega, by dsimp only; omega, by dsimp only; omega, hR2⟩, (by dsimp only; repeat (first | exact Sub.nil | refine Sub.cons rfl ?_ | refine Sub.cons_int rfl (by omega) ?_)), fun w' hw => hw, by dsimp only; omega⟩
set_option maxHeartbeats 8000000 in
theorem partEq_ok {w0 w : World} {g c n : Nat} {d0 : Array Int} {junk : List Value} {rest : OL} (a b pivot : Nat) (h : Hp w0 w (uE g 59 d0 junk :: rest)) (hn : d0.size = n) (hp1 : a ≤ pivot) (hp2 : pivot < b) (hb : b ≤ n) (hm : n ≤ 1152921504606846976) : Calls Try.prog 85 #[.slice (some ⟨g, 0, none⟩) n c, .int .i64 (a : Int), .int .i64 (b : Int), .int .i64 (pivot : Int)] w fun e w' => e = .returned (.int .i64 (((partitionEqual ltI d0 a b pivot).1 : Nat) : Int)) ∧ Hp w0 w' (uE g 59 ((partitionEqual ltI d0 a b pivot).2) junk :: rest) ∧ ((partitionEqual ltI d0 a b pivot).2).size = n := by
  refine enterW4 Try.func85 rfl rfl h ?_
  obtain ⟨R, hR⟩ : ∃ R, R = partitionEqual ltI d0 a b pivot := ⟨_, rfl⟩
  rw [← hR]
  unfold partitionEqual at hR
  repeat (first | refine T_seq ?_ | refine T_region ?_ | refine S_nil ?_ | refine S_pure tabOk rfl ?_)
  have hs := swp_size d0 a pivot
  let ol0 : OL := uE g 59 d0 junk :: rest
  let ol1 : OL := .blk g (.cells ⟨(uA d0 junk).set a (.int .u64 d0[pivot]!)⟩ 59 (0, 0)) true :: rest
  let ol2 : OL := uE g 59 (swp d0 a pivot) junk :: rest
  let olf : (Nat → Bool) → OL := fun L => match L 15 with
    | true => ol2
    | false => match L 13 with
      | true => ol1
      | false => ol0
  refine T_drawS (by kernel_rfl) (by kernel_rfl) [.slice (some ⟨g, 0, none⟩) n c, .int .i64 (a : Int), .slice (some ⟨g, 0, none⟩) n c, .int .i64 (pivot : Int), .slice (some ⟨g, 0, none⟩) n c, .int .i64 (pivot : Int), .pointer (some ⟨g, 0 + pivot, none⟩), .int .u64 d0[pivot]!, .slice (some ⟨g, 0, none⟩) n c, .int .i64 (a : Int), .pointer (some ⟨g, 0 + a, none⟩), .int .u64 d0[a]!, .pointer (some ⟨g, 0 + a, none⟩), undef, .pointer (some ⟨g, 0 + pivot, none⟩), undef] rfl olf rfl ?_ (l' := [(0, .slice (some ⟨g, 0, none⟩) n c), (1, .int .i64 (a : Int)), (2, .int .i64 (b : Int))]) (ol' := ol2) (fun L h => by simp only [olf, h 15 (by decide)]) (by repeat (first | exact SubD.nil | refine SubD.cons rfl ?_)) ?_
  · refine ⟨?_, ?_, ?_, ?_, ?_, ?_, ?_, ?_, ?_, ?_, ?_, ?_, ?_, ?_, ?_, ?_, trivial⟩
    · exact fun L hc hl hp => OpS.ofD rfl (D_pure tabOk rfl D_last)
    · exact fun L hc hl hp => OpS.ofD rfl (D_pure tabOk rfl D_last)
    · exact fun L hc hl hp => OpS.ofD rfl (D_pure tabOk rfl D_last)
    · exact fun L hc hl hp => OpS.ofD rfl (D_pure tabOk rfl D_last)
    · exact fun L hc hl hp => OpS.ofD rfl (D_pure tabOk rfl D_last)
    · exact fun L hc hl hp => OpS.ofD rfl (D_pure tabOk rfl D_last)
    · exact fun L hc hl hp => OpS.ofD rfl (D_q (Q_idx1 tabOk rfl rfl rfl rfl rfl rfl rfl (j := pivot) (by omega) (by omega)) D_last)
    · intro L hc hl hp
      have h13 := closed_no hc (j := 13) rfl ⟨7, .data⟩ (by simp) rfl hl
      have h15 := closed_no hc (j := 15) rfl ⟨7, .phase⟩ (by simp) rfl hl
      have e1 : olf L = ol0 := by simp only [olf, h13, h15]
      have e2 : olf (add L 7) = ol0 := by simp [olf, add, h13, h15]
      rw [e1, e2]
      exact OpS.ofD rfl (D_load1 tabOk (v := .int .u64 d0[pivot]!) rfl rfl (fun w' hw => blkc hw (uA_get (by omega))) D_last)
    · exact fun L hc hl hp => OpS.ofD rfl (D_pure tabOk rfl D_last)
    · exact fun L hc hl hp => OpS.ofD rfl (D_pure tabOk rfl D_last)
    · exact fun L hc hl hp => OpS.ofD rfl (D_q (Q_idx1 tabOk rfl rfl rfl rfl rfl rfl rfl (j := a) (by omega) (by omega)) D_last)
    · intro L hc hl hp
      have h13 := closed_no hc (j := 13) rfl ⟨11, .phase⟩ (by simp) rfl hl
      have h15 := closed_no hc (j := 15) rfl ⟨11, .data⟩ (by simp) rfl hl
      have e1 : olf L = ol0 := by simp only [olf, h13, h15]
      have e2 : olf (add L 11) = ol0 := by simp [olf, add, h13, h15]
      rw [e1, e2]
      exact OpS.ofD rfl (D_load1 tabOk (v := .int .u64 d0[a]!) rfl rfl (fun w' hw => blkc hw (uA_get (by omega))) D_last)
    · exact fun L hc hl hp => OpS.ofD rfl (D_q (Q_idx1 tabOk rfl rfl rfl rfl rfl rfl rfl (j := a) (by omega) (by omega)) D_last)
    · intro L hc hl hp
      have h15 := closed_no hc (j := 15) rfl ⟨13, .chain⟩ (by simp) rfl hl
      have e1 : olf L = ol0 := by simp only [olf, hl, h15]
      have e2 : olf (add L 13) = ol1 := by simp [olf, add, h15]
      rw [e1, e2]
      exact OpS.store tabOk 0 rfl rfl (by intro x hx; rw [List.mem_singleton] at hx; subst hx; rfl) rfl (by rw [Nat.zero_add]; exact setMany_1 (by rw [uA_len]; omega)) rfl
    · exact fun L hc hl hp => OpS.ofD rfl (D_q (Q_idx1 tabOk rfl rfl rfl rfl rfl rfl rfl (j := pivot) (by omega) (by omega)) D_last)
    · intro L hc hl hp
      have h13 : L 13 = true := hp ⟨13, .chain⟩ (by simp) rfl
      have e1 : olf L = ol1 := by simp only [olf, h13, hl]
      have e2 : olf (add L 15) = ol2 := by simp [olf, add]
      rw [e1, e2]
      exact OpS.store tabOk 0 rfl rfl (by intro x hx; rw [List.mem_singleton] at hx; subst hx; rfl) rfl (by rw [Nat.zero_add]; exact (setMany_1 (by rw [List.length_set, uA_len]; omega)).trans (congrArg some (uA_swp (by omega) (by omega)))) rfl
  clear olf ol0 ol1
  dsimp only [ol2]
  clear ol2
  obtain ⟨d, hd0⟩ : ∃ d, d = swp d0 a pivot := ⟨_, rfl⟩
  rw [← hd0] at hR hs ⊢
  clear hd0
  have hd : d.size = n := by omega
  repeat (first | refine T_seq ?_ | refine T_region ?_ | refine S_nil ?_ | refine S_i64 tabOk rfl (by omega) ?_ | refine S_pure tabOk rfl ?_)
  skip
  obtain ⟨ia, hia⟩ : ∃ i, i = a + 1 := ⟨_, rfl⟩
  obtain ⟨jb, hjb⟩ : ∃ j, j = b - 1 := ⟨_, rfl⟩
  rw [← hjb, ← hia] at hR
  refine T_sub (l' := [(0, .slice (some ⟨g, 0, none⟩) n c), (1, .int .i64 (a : Int)), (2, .int .i64 (b : Int)), (9, .int .i64 (ia : Int)), (10, .int .i64 (jb : Int))]) (by repeat (first | exact Sub.nil | refine Sub.cons rfl ?_ | refine Sub.cons_int rfl (by omega) ?_)) ?_
  obtain ⟨R2, hR2⟩ : ∃ R, R = partEqLoop ltI a ia jb d := ⟨_, rfl⟩
  rw [← hR2] at hR
  refine T_block ?_
  refine T_loop (ι := SrJ) (fun t => [(0, .slice (some ⟨g, 0, none⟩) n c), (1, .int .i64 (a : Int)), (2, .int .i64 (b : Int)), (9, .int .i64 (t.i : Int)), (10, .int .i64 (t.j : Int))]) (fun t => uE g 59 t.d junk :: rest) (fun t => a < t.i ∧ t.i ≤ t.j + 1 ∧ t.j < b ∧ t.d.size = n ∧ R2 = partEqLoop ltI a t.i t.j t.d) (fun t => t.j + 1 - t.i) ⟨ia, jb, d⟩ ⟨by dsimp only; omega, by dsimp only; omega, by dsimp only; omega, by dsimp only; omega, hR2⟩ (by dsimp only; repeat (first | exact Sub.nil | refine Sub.cons rfl ?_)) (fun w' hw => hw) ?_
  clear hR2
  rintro ⟨i, j, e⟩ ⟨ha, hij1, hjb, he, hR2⟩
  dsimp only at ha hij1 hjb he hR2 ⊢
  obtain ⟨i1, hi1⟩ : ∃ i1, i1 = scanUp (fun x => !ltI e[a]! x) e j i := ⟨_, rfl⟩
  obtain ⟨j1, hj1⟩ : ∃ j1, j1 = scanDown (fun x => ltI e[a]! x) e i1 j := ⟨_, rfl⟩
  obtain ⟨f1, f2, f3, f4, f5⟩ := scan2 (fun x => !ltI e[a]! x) (fun x => ltI e[a]! x) (fun _ => by rw [Bool.not_not]) e (i := i) (j := j) (by omega) (by omega)
  rw [← hi1, ← hj1] at f3 f4 f5
  rw [← hi1] at f1 f2
  rw [partEqLoop_eq, ← hi1, ← hj1] at hR2
  skip
  refine T_block ?_
  repeat (first | refine T_seq ?_)
  refine T_cut (ι := Unit) (fun _ => True) (fun _ => [(0, .slice (some ⟨g, 0, none⟩) n c), (1, .int .i64 (a : Int)), (2, .int .i64 (b : Int)), (10, .int .i64 (j : Int)), (9, .int .i64 (i1 : Int))]) (fun _ => uE g 59 e junk :: rest) ?_ ?_
  · refine T_block ?_
    refine T_loop (ι := Nat) (fun t => [(0, .slice (some ⟨g, 0, none⟩) n c), (1, .int .i64 (a : Int)), (2, .int .i64 (b : Int)), (10, .int .i64 (j : Int)), (9, .int .i64 (t : Int))]) (fun _ => uE g 59 e junk :: rest) (fun t => i ≤ t ∧ t ≤ j + 1 ∧ i1 = scanUp (fun x => !ltI e[a]! x) e j t) (fun t => j + 1 - t) i ⟨by omega, by omega, by assumption⟩ (by repeat (first | exact Sub.nil | refine Sub.cons rfl ?_)) (fun w' hw => hw) ?_
    rintro t ⟨ht1, ht2, hR⟩
    by_cases hc : t ≤ j
    rotate_left
    · rw [up_stop (p := fun x => !ltI e[a]! x) (.inl hc)] at hR
      subst hR
      repeat (first | refine T_draw (by kernel_rfl) (by kernel_rfl) ?_ | refine D_pure tabOk rfl ?_ | refine T_seq ?_)
      refine D_re 32 (v' := .bool false) rfl (congrArg Value.bool (decide_eq_false (by omega))) ?_
      repeat (first | refine D_all rfl ?_ | refine D_pure tabOk rfl ?_ | refine D_pass rfl rfl rfl ?_)
      refine T_cond_f rfl ?_
      repeat (first | refine pthen_normal ?_ | refine inb_hit ?_ | refine pthen_exit ?_ | refine T_exit ?_)
      exact ⟨(), trivial, by repeat (first | exact Sub.nil | refine Sub.cons rfl ?_), fun w' hw => hw⟩
    cases hb : ltI e[a]! e[t]! with
    | true =>
      rw [up_stop (p := fun x => !ltI e[a]! x) (.inr (by show (!ltI e[a]! e[t]!) = false; rw [hb]; rfl))] at hR
      subst hR
      repeat (first | refine T_draw (by kernel_rfl) (by kernel_rfl) ?_ | refine D_pure tabOk rfl ?_ | refine T_seq ?_)
      refine D_re 32 (v' := .bool true) rfl (congrArg Value.bool (decide_eq_true (by omega))) ?_
      repeat (first | refine D_pure tabOk rfl ?_)
      refine D_q (Q_idx1 tabOk rfl rfl rfl rfl rfl rfl rfl (j := a) (by omega) (by omega)) ?_
      refine D_load1 tabOk rfl rfl (v := .int .u64 e[a]!) (fun w' hw => blkc hw (uA_get (by omega))) ?_
      repeat (first | refine D_pure tabOk rfl ?_)
      refine D_q (Q_idx1 tabOk rfl rfl rfl rfl rfl rfl rfl (j := i1) (by omega) (by omega)) ?_
      refine D_load1 tabOk rfl rfl (v := .int .u64 e[i1]!) (fun w' hw => blkc hw (uA_get (by omega))) ?_
      skip
      refine D_callx rfl Try.call84 (v := .bool true) (fun w' vs hw' h => by obtain ⟨u1, _, rfl, rfl, u2, _, rfl, rfl, rfl⟩ := h; exact less_b hb w') ?_
      repeat (first | refine D_all rfl ?_ | refine D_pure tabOk rfl ?_)
      refine T_cond_f rfl ?_
      repeat (first | refine pthen_normal ?_ | refine inb_hit ?_ | refine pthen_exit ?_ | refine T_exit ?_)
      exact ⟨(), trivial, by repeat (first | exact Sub.nil | refine Sub.cons rfl ?_), fun w' hw => hw⟩
    | false =>
      rw [up_step (p := fun x => !ltI e[a]! x) hc (by show (!ltI e[a]! e[t]!) = true; rw [hb]; rfl)] at hR
      repeat (first | refine T_draw (by kernel_rfl) (by kernel_rfl) ?_ | refine D_pure tabOk rfl ?_ | refine T_seq ?_)
      refine D_re 32 (v' := .bool true) rfl (congrArg Value.bool (decide_eq_true (by omega))) ?_
      repeat (first | refine D_pure tabOk rfl ?_)
      refine D_q (Q_idx1 tabOk rfl rfl rfl rfl rfl rfl rfl (j := a) (by omega) (by omega)) ?_
      refine D_load1 tabOk rfl rfl (v := .int .u64 e[a]!) (fun w' hw => blkc hw (uA_get (by omega))) ?_
      repeat (first | refine D_pure tabOk rfl ?_)
      refine D_q (Q_idx1 tabOk rfl rfl rfl rfl rfl rfl rfl (j := t) (by omega) (by omega)) ?_
      refine D_load1 tabOk rfl rfl (v := .int .u64 e[t]!) (fun w' hw => blkc hw (uA_get (by omega))) ?_
      skip
      refine D_callx rfl Try.call84 (v := .bool false) (fun w' vs hw' h => by obtain ⟨u1, _, rfl, rfl, u2, _, rfl, rfl, rfl⟩ := h; exact less_b hb w') ?_
      repeat (first | refine D_all rfl ?_ | refine D_pure tabOk rfl ?_)
      refine T_cond_t rfl ?_
      repeat (first | refine T_block ?_ | refine S_nil ?_ | refine pthen_normal ?_ | refine inb_normal ?_ | refine T_skip ?_ | refine S_i64 tabOk rfl (by omega) ?_ | refine S_pure tabOk rfl ?_ | refine T_region_any ?_)
      exact ⟨t + 1, ⟨by omega, by omega, hR⟩, (by repeat (first | exact Sub.nil | refine Sub.cons rfl ?_)), fun w' hw => hw, by omega⟩
  rintro _ _
  repeat (first | refine T_seq ?_)
  refine T_cut (ι := Unit) (fun _ => True) (fun _ => [(0, .slice (some ⟨g, 0, none⟩) n c), (1, .int .i64 (a : Int)), (2, .int .i64 (b : Int)), (9, .int .i64 (i1 : Int)), (10, .int .i64 (j1 : Int))]) (fun _ => uE g 59 e junk :: rest) ?_ ?_
  · refine T_block ?_
    refine T_loop (ι := Nat) (fun t => [(0, .slice (some ⟨g, 0, none⟩) n c), (1, .int .i64 (a : Int)), (2, .int .i64 (b : Int)), (9, .int .i64 (i1 : Int)), (10, .int .i64 (t : Int))]) (fun _ => uE g 59 e junk :: rest) (fun t => t ≤ j ∧ i1 ≤ t + 1 ∧ j1 = scanDown (fun x => ltI e[a]! x) e i1 t) (fun t => t) j ⟨by omega, by omega, by assumption⟩ (by repeat (first | exact Sub.nil | refine Sub.cons rfl ?_)) (fun w' hw => hw) ?_
    rintro t ⟨ht1, ht2, hR⟩
    by_cases hc : i1 ≤ t
    rotate_left
    · rw [dn_stop (p := fun x => ltI e[a]! x) (.inl hc) (by omega)] at hR
      subst hR
      repeat (first | refine T_draw (by kernel_rfl) (by kernel_rfl) ?_ | refine D_pure tabOk rfl ?_ | refine T_seq ?_)
      refine D_re 49 (v' := .bool false) rfl (congrArg Value.bool (decide_eq_false (by omega))) ?_
      repeat (first | refine D_all rfl ?_ | refine D_pure tabOk rfl ?_ | refine D_pass rfl rfl rfl ?_)
      refine T_cond_f rfl ?_
      repeat (first | refine pthen_normal ?_ | refine inb_hit ?_ | refine pthen_exit ?_ | refine T_exit ?_)
      exact ⟨(), trivial, by repeat (first | exact Sub.nil | refine Sub.cons rfl ?_), fun w' hw => hw⟩
    cases hb : ltI e[a]! e[t]! with
    | false =>
      rw [dn_stop (p := fun x => ltI e[a]! x) (.inr hb) (by omega)] at hR
      subst hR
      repeat (first | refine T_draw (by kernel_rfl) (by kernel_rfl) ?_ | refine D_pure tabOk rfl ?_ | refine T_seq ?_)
      refine D_re 49 (v' := .bool true) rfl (congrArg Value.bool (decide_eq_true (by omega))) ?_
      repeat (first | refine D_pure tabOk rfl ?_)
      refine D_q (Q_idx1 tabOk rfl rfl rfl rfl rfl rfl rfl (j := a) (by omega) (by omega)) ?_
      refine D_load1 tabOk rfl rfl (v := .int .u64 e[a]!) (fun w' hw => blkc hw (uA_get (by omega))) ?_
      repeat (first | refine D_pure tabOk rfl ?_)
      refine D_q (Q_idx1 tabOk rfl rfl rfl rfl rfl rfl rfl (j := j1) (by omega) (by omega)) ?_
      refine D_load1 tabOk rfl rfl (v := .int .u64 e[j1]!) (fun w' hw => blkc hw (uA_get (by omega))) ?_
      skip
      refine D_callx rfl Try.call84 (v := .bool false) (fun w' vs hw' h => by obtain ⟨u1, _, rfl, rfl, u2, _, rfl, rfl, rfl⟩ := h; exact less_b hb w') ?_
      repeat (first | refine D_all rfl ?_ | refine D_pure tabOk rfl ?_)
      refine T_cond_f rfl ?_
      repeat (first | refine pthen_normal ?_ | refine inb_hit ?_ | refine pthen_exit ?_ | refine T_exit ?_)
      exact ⟨(), trivial, by repeat (first | exact Sub.nil | refine Sub.cons rfl ?_), fun w' hw => hw⟩
    | true =>
      rw [dn_step (p := fun x => ltI e[a]! x) hc (by omega) hb] at hR
      repeat (first | refine T_draw (by kernel_rfl) (by kernel_rfl) ?_ | refine D_pure tabOk rfl ?_ | refine T_seq ?_)
      refine D_re 49 (v' := .bool true) rfl (congrArg Value.bool (decide_eq_true (by omega))) ?_
      repeat (first | refine D_pure tabOk rfl ?_)
      refine D_q (Q_idx1 tabOk rfl rfl rfl rfl rfl rfl rfl (j := a) (by omega) (by omega)) ?_
      refine D_load1 tabOk rfl rfl (v := .int .u64 e[a]!) (fun w' hw => blkc hw (uA_get (by omega))) ?_
      repeat (first | refine D_pure tabOk rfl ?_)
      refine D_q (Q_idx1 tabOk rfl rfl rfl rfl rfl rfl rfl (j := t) (by omega) (by omega)) ?_
      refine D_load1 tabOk rfl rfl (v := .int .u64 e[t]!) (fun w' hw => blkc hw (uA_get (by omega))) ?_
      skip
      refine D_callx rfl Try.call84 (v := .bool true) (fun w' vs hw' h => by obtain ⟨u1, _, rfl, rfl, u2, _, rfl, rfl, rfl⟩ := h; exact less_b hb w') ?_
      repeat (first | refine D_all rfl ?_ | refine D_pure tabOk rfl ?_)
      refine T_cond_t rfl ?_
      repeat (first | refine T_block ?_ | refine S_nil ?_ | refine pthen_normal ?_ | refine inb_normal ?_ | refine T_skip ?_ | refine S_i64 tabOk rfl (by omega) ?_ | refine S_pure tabOk rfl ?_ | refine T_region_any ?_)
      exact ⟨t - 1, ⟨by omega, by omega, hR⟩, (by repeat (first | exact Sub.nil | refine Sub.cons rfl ?_ | refine Sub.cons_int rfl (by omega) ?_)), fun w' hw => hw, by omega⟩
  rintro _ _
  repeat (first | refine T_seq ?_ | refine T_region ?_ | refine S_nil ?_ | refine S_pure tabOk rfl ?_)
  refine T_cond_dec rfl (fun hc => ?_) (fun hc => ?_)
  · rw [if_pos (by omega)] at hR2
    subst hR2
    repeat (first | refine pthen_exit ?_ | refine T_exit ?_)
    refine inb_miss rfl ?_
    repeat (first | refine T_seq ?_ | refine T_region ?_ | refine S_nil ?_ | refine pthen_normal ?_ | refine inb_hit ?_ | refine pthen_exit ?_ | refine T_ret ?_ | refine S_pure tabOk rfl ?_)
    subst hR
    exact ret1 rfl rfl (fun w' hw => ⟨rfl, hw, he⟩)
  rw [if_neg (by omega)] at hR2
  have hij := f5 (by omega)
  repeat (first | refine T_seq ?_ | refine T_skip ?_ | refine pthen_normal ?_)
  have hs3 := swp_size e i1 j1
  let ol0 : OL := uE g 59 e junk :: rest
  let ol1 : OL := .blk g (.cells ⟨(uA e junk).set i1 (.int .u64 e[j1]!)⟩ 59 (0, 0)) true :: rest
  let ol2 : OL := uE g 59 (swp e i1 j1) junk :: rest
  let olf : (Nat → Bool) → OL := fun L => match L 15 with
    | true => ol2
    | false => match L 13 with
      | true => ol1
      | false => ol0
  refine T_drawS (by kernel_rfl) (by kernel_rfl) [.slice (some ⟨g, 0, none⟩) n c, .int .i64 (i1 : Int), .slice (some ⟨g, 0, none⟩) n c, .int .i64 (j1 : Int), .slice (some ⟨g, 0, none⟩) n c, .int .i64 (j1 : Int), .pointer (some ⟨g, 0 + j1, none⟩), .int .u64 e[j1]!, .slice (some ⟨g, 0, none⟩) n c, .int .i64 (i1 : Int), .pointer (some ⟨g, 0 + i1, none⟩), .int .u64 e[i1]!, .pointer (some ⟨g, 0 + i1, none⟩), undef, .pointer (some ⟨g, 0 + j1, none⟩), undef] rfl olf rfl ?_ (l' := [(0, .slice (some ⟨g, 0, none⟩) n c), (1, .int .i64 (a : Int)), (2, .int .i64 (b : Int)), (9, .int .i64 (i1 : Int)), (10, .int .i64 (j1 : Int))]) (ol' := ol2) (fun L h => by simp only [olf, h 15 (by decide)]) (by repeat (first | exact SubD.nil | refine SubD.cons rfl ?_)) ?_
  · refine ⟨?_, ?_, ?_, ?_, ?_, ?_, ?_, ?_, ?_, ?_, ?_, ?_, ?_, ?_, ?_, ?_, trivial⟩
    · exact fun L hc hl hp => OpS.ofD rfl (D_pure tabOk rfl D_last)
    · exact fun L hc hl hp => OpS.ofD rfl (D_pure tabOk rfl D_last)
    · exact fun L hc hl hp => OpS.ofD rfl (D_pure tabOk rfl D_last)
    · exact fun L hc hl hp => OpS.ofD rfl (D_pure tabOk rfl D_last)
    · exact fun L hc hl hp => OpS.ofD rfl (D_pure tabOk rfl D_last)
    · exact fun L hc hl hp => OpS.ofD rfl (D_pure tabOk rfl D_last)
    · exact fun L hc hl hp => OpS.ofD rfl (D_q (Q_idx1 tabOk rfl rfl rfl rfl rfl rfl rfl (j := j1) (by omega) (by omega)) D_last)
    · intro L hc hl hp
      have h13 := closed_no hc (j := 13) rfl ⟨7, .data⟩ (by simp) rfl hl
      have h15 := closed_no hc (j := 15) rfl ⟨7, .phase⟩ (by simp) rfl hl
      have e1 : olf L = ol0 := by simp only [olf, h13, h15]
      have e2 : olf (add L 7) = ol0 := by simp [olf, add, h13, h15]
      rw [e1, e2]
      exact OpS.ofD rfl (D_load1 tabOk (v := .int .u64 e[j1]!) rfl rfl (fun w' hw => blkc hw (uA_get (by omega))) D_last)
    · exact fun L hc hl hp => OpS.ofD rfl (D_pure tabOk rfl D_last)
    · exact fun L hc hl hp => OpS.ofD rfl (D_pure tabOk rfl D_last)
    · exact fun L hc hl hp => OpS.ofD rfl (D_q (Q_idx1 tabOk rfl rfl rfl rfl rfl rfl rfl (j := i1) (by omega) (by omega)) D_last)
    · intro L hc hl hp
      have h13 := closed_no hc (j := 13) rfl ⟨11, .phase⟩ (by simp) rfl hl
      have h15 := closed_no hc (j := 15) rfl ⟨11, .data⟩ (by simp) rfl hl
      have e1 : olf L = ol0 := by simp only [olf, h13, h15]
      have e2 : olf (add L 11) = ol0 := by simp [olf, add, h13, h15]
      rw [e1, e2]
      exact OpS.ofD rfl (D_load1 tabOk (v := .int .u64 e[i1]!) rfl rfl (fun w' hw => blkc hw (uA_get (by omega))) D_last)
    · exact fun L hc hl hp => OpS.ofD rfl (D_q (Q_idx1 tabOk rfl rfl rfl rfl rfl rfl rfl (j := i1) (by omega) (by omega)) D_last)
    · intro L hc hl hp
      have h15 := closed_no hc (j := 15) rfl ⟨13, .chain⟩ (by simp) rfl hl
      have e1 : olf L = ol0 := by simp only [olf, hl, h15]
      have e2 : olf (add L 13) = ol1 := by simp [olf, add, h15]
      rw [e1, e2]
      exact OpS.store tabOk 0 rfl rfl (by intro x hx; rw [List.mem_singleton] at hx; subst hx; rfl) rfl (by rw [Nat.zero_add]; exact setMany_1 (by rw [uA_len]; omega)) rfl
    · exact fun L hc hl hp => OpS.ofD rfl (D_q (Q_idx1 tabOk rfl rfl rfl rfl rfl rfl rfl (j := j1) (by omega) (by omega)) D_last)
    · intro L hc hl hp
      have h13 : L 13 = true := hp ⟨13, .chain⟩ (by simp) rfl
      have e1 : olf L = ol1 := by simp only [olf, h13, hl]
      have e2 : olf (add L 15) = ol2 := by simp [olf, add]
      rw [e1, e2]
      exact OpS.store tabOk 0 rfl rfl (by intro x hx; rw [List.mem_singleton] at hx; subst hx; rfl) rfl (by rw [Nat.zero_add]; exact (setMany_1 (by rw [List.length_set, uA_len]; omega)).trans (congrArg some (uA_swp (by omega) (by omega)))) rfl
  clear olf ol0 ol1
  dsimp only [ol2]
  clear ol2
  repeat (first | refine T_seq ?_ | refine T_region ?_ | refine S_nil ?_ | refine pthen_normal ?_ | refine inb_normal ?_ | refine S_i64 tabOk rfl (by omega) ?_ | refine S_pure tabOk rfl ?_ | refine T_region_any ?_)
  exact ⟨⟨i1 + 1, j1 - 1, swp e i1 j1⟩, ⟨by dsimp only; omega, by dsimp only; omega, by dsimp only; omega, by dsimp only; omega, hR2⟩, (by dsimp only; repeat (first | exact Sub.nil | refine Sub.cons rfl ?_ | refine Sub.cons_int rfl (by omega) ?_)), fun w' hw => hw, by dsimp only; omega⟩
end Go.Proofs.Yteogkadjambmkaa
