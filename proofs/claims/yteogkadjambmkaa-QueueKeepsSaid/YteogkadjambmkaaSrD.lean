/-
  slices.Sort at uint64: the partial insertion sort. Conditions: each theorem's own. (Made by genSr.py.)
-/
import Derived.Test.YteogkadjambmkaaSrC
namespace Go.Proofs.Yteogkadjambmkaa
open Go Go.RowKit Go.Sort
set_option linter.unusedVariables false

theorem ss_stop {d : Array Int} {b i : Nat} (h : ¬ i < b ∨ ltI d[i]! d[i - 1]! = true) : scanSorted ltI d b i = i := by
  unfold scanSorted
  rw [if_neg]
  intro hh
  rw [Bool.and_eq_true, decide_eq_true_eq] at hh
  rcases h with h | h
  · exact h hh.1
  · rw [h] at hh; exact absurd hh.2 (by decide)
theorem ss_step {d : Array Int} {b i : Nat} (h : i < b) (hp : ltI d[i]! d[i - 1]! = false) : scanSorted ltI d b i = scanSorted ltI d b (i + 1) := by
  conv => lhs; unfold scanSorted
  rw [if_pos (by rw [Bool.and_eq_true, decide_eq_true_eq]; exact ⟨h, by rw [hp]; rfl⟩)]
theorem ss_bd {d : Array Int} {b : Nat} : ∀ (m i : Nat), b - i = m → i ≤ b → i ≤ scanSorted ltI d b i ∧ scanSorted ltI d b i ≤ b
  | 0, i, hm, hi => by rw [ss_stop (.inl (by omega))]; omega
  | m + 1, i, hm, hi => by
    cases hb : ltI d[i]! d[i - 1]! with
    | true => rw [ss_stop (.inr hb)]; omega
    | false =>
      rw [ss_step (b := b) (i := i) (by omega) hb]
      have := ss_bd (d := d) (b := b) m (i + 1) (by omega) (by omega)
      omega
theorem sd_stop {d : Array Int} {j : Nat} (h : j = 0 ∨ ltI d[j]! d[j - 1]! = false) : shiftDown ltI j d = d := by
  cases j with
  | zero => rfl
  | succ j =>
    unfold shiftDown
    rcases h with h | h
    · cases h
    · rw [Nat.add_sub_cancel] at h; rw [h]; rfl
theorem sd_step {d : Array Int} {j : Nat} (h : 1 ≤ j) (hl : ltI d[j]! d[j - 1]! = true) : shiftDown ltI j d = shiftDown ltI (j - 1) (swp d j (j - 1)) := by
  obtain ⟨k, rfl⟩ : ∃ k, j = k + 1 := ⟨j - 1, by omega⟩
  rw [Nat.add_sub_cancel] at hl ⊢
  conv => lhs; unfold shiftDown
  rw [hl]
  rfl
theorem su_stop {d : Array Int} {b j : Nat} (h : ¬ j < b ∨ ltI d[j]! d[j - 1]! = false) : shiftUp ltI b j d = d := by
  unfold shiftUp
  by_cases hj : j < b
  · rw [if_pos hj, h.resolve_left (fun h => h hj)]
    rfl
  · rw [if_neg hj]
theorem su_step {d : Array Int} {b j : Nat} (h : j < b) (hl : ltI d[j]! d[j - 1]! = true) : shiftUp ltI b j d = shiftUp ltI b (j + 1) (swp d j (j - 1)) := by
  conv => lhs; unfold shiftUp
  rw [if_pos h, hl]
  rfl
structure SrP where
  s : Nat
  i : Nat
  d : Array Int
set_option maxHeartbeats 8000000 in
theorem pins_ok {w0 w : World} {g c n : Nat} {d0 : Array Int} {junk : List Value} {rest : OL} (a b : Nat) (h : Hp w0 w (uE g 59 d0 junk :: rest)) (hn : d0.size = n) (hab : a < b) (hb : b ≤ n) (hm : n ≤ 1152921504606846976) : Calls Try.prog 83 #[.slice (some ⟨g, 0, none⟩) n c, .int .i64 (a : Int), .int .i64 (b : Int)] w fun e w' => e = .returned (.bool (partialInsertionSort ltI d0 a b).2) ∧ Hp w0 w' (uE g 59 (partialInsertionSort ltI d0 a b).1 junk :: rest) ∧ ((partialInsertionSort ltI d0 a b).1).size = n := by
  refine enterW3 Try.func83 rfl rfl h ?_
  obtain ⟨R, hR⟩ : ∃ R, R = partialInsertionSort ltI d0 a b := ⟨_, rfl⟩
  rw [← hR]
  unfold partialInsertionSort at hR
  repeat (first | refine T_seq ?_ | refine T_region ?_ | refine T_block ?_ | refine S_nil ?_ | refine S_i64 tabOk rfl (by omega) ?_ | refine S_pure tabOk rfl ?_)
  refine T_loop (ι := SrP) (fun t => [(0, .slice (some ⟨g, 0, none⟩) n c), (1, .int .i64 (a : Int)), (2, .int .i64 (b : Int)), (7, .int .i64 (t.i : Int)), (8, .int .i64 (5 - (t.s : Int)))]) (fun t => uE g 59 t.d junk :: rest) (fun t => t.s ≤ 5 ∧ a < t.i ∧ t.i ≤ b ∧ t.d.size = n ∧ R = partialIns ltI a b t.s t.i t.d) (fun t => t.s) ⟨5, a + 1, d0⟩ ⟨by dsimp only; omega, by dsimp only; omega, by dsimp only; omega, hn, hR⟩ (by dsimp only; repeat (first | exact Sub.nil | refine Sub.cons rfl ?_)) (fun w' hw => hw) ?_
  clear hR
  rintro ⟨s, i, d⟩ ⟨hs5, hi1, hi2, hd, hR⟩
  dsimp only at hs5 hi1 hi2 hd hR ⊢
  obtain ⟨z, hz⟩ : ∃ z, z = 5 - (s : Int) := ⟨_, rfl⟩
  rw [← hz]
  repeat (first | refine T_seq ?_ | refine T_region ?_ | refine S_nil ?_ | refine S_pure tabOk rfl ?_)
  cases s with
  | zero =>
    refine T_cond_dec rfl (fun h => absurd h (by omega)) (fun _ => ?_)
    subst hR
    repeat (first | refine T_seq ?_ | refine T_region ?_ | refine S_nil ?_ | refine pthen_normal ?_ | refine inb_hit ?_ | refine pthen_exit ?_ | refine T_ret ?_ | refine T_exit ?_ | refine S_pure tabOk rfl ?_)
    exact ret1 rfl rfl (fun w' hw => ⟨rfl, hw, hd⟩)
  | succ s =>
  rw [partialIns_succ] at hR
  refine T_cond_dec rfl (fun _ => ?_) (fun h => absurd (by omega) h)
  repeat (first | refine T_seq ?_ | refine T_skip ?_ | refine pthen_normal ?_)
  refine T_block ?_
  repeat (first | refine T_seq ?_)
  obtain ⟨k, hk⟩ : ∃ k, k = scanSorted ltI d b i := ⟨_, rfl⟩
  have hkb := ss_bd (d := d) (b := b) _ i rfl hi2
  rw [← hk] at hR hkb
  refine T_cut (ι := Unit) (fun _ => True) (fun _ => [(0, .slice (some ⟨g, 0, none⟩) n c), (1, .int .i64 (a : Int)), (2, .int .i64 (b : Int)), (7, .int .i64 (k : Int)), (8, .int .i64 z)]) (fun _ => uE g 59 d junk :: rest) ?_ ?_
  · refine T_block ?_
    refine T_loop (ι := Nat) (fun t => [(0, .slice (some ⟨g, 0, none⟩) n c), (1, .int .i64 (a : Int)), (2, .int .i64 (b : Int)), (7, .int .i64 (t : Int)), (8, .int .i64 z)]) (fun _ => uE g 59 d junk :: rest) (fun t => i ≤ t ∧ t ≤ b ∧ k = scanSorted ltI d b t) (fun t => b - t) i ⟨Nat.le_refl _, hi2, hk⟩ (by repeat (first | exact Sub.nil | refine Sub.cons rfl ?_)) (fun w' hw => hw) ?_
    rintro t ⟨ht1, ht2, hk⟩
    by_cases hc : t < b
    rotate_left
    · rw [ss_stop (.inl hc)] at hk
      subst hk
      repeat (first | refine T_draw (by kernel_rfl) (by kernel_rfl) ?_ | refine D_pure tabOk rfl ?_ | refine T_seq ?_)
      refine D_re 20 (v' := .bool false) rfl (congrArg Value.bool (decide_eq_false (by omega))) ?_
      repeat (first | refine D_all rfl ?_ | refine D_pure tabOk rfl ?_ | refine D_pass rfl rfl rfl ?_)
      refine T_cond_f rfl ?_
      repeat (first | refine pthen_normal ?_ | refine inb_hit ?_ | refine pthen_exit ?_ | refine T_exit ?_)
      exact ⟨(), trivial, by repeat (first | exact Sub.nil | refine Sub.cons rfl ?_), fun w' hw => hw⟩
    cases hb : ltI d[t]! d[t - 1]! with
    | true =>
      rw [ss_stop (.inr hb)] at hk
      subst hk
      repeat (first | refine T_draw (by kernel_rfl) (by kernel_rfl) ?_ | refine D_pure tabOk rfl ?_ | refine T_seq ?_)
      refine D_re 20 (v' := .bool true) rfl (congrArg Value.bool (decide_eq_true (by omega))) ?_
      repeat (first | refine D_pure tabOk rfl ?_)
      refine D_q (Q_idx1 tabOk rfl rfl rfl rfl rfl rfl rfl (j := k) (by omega) (by omega)) ?_
      refine D_load1 tabOk rfl rfl (v := .int .u64 d[k]!) (fun w' hw => blkc hw (uA_get (by omega))) ?_
      repeat (first | refine D_i64 tabOk rfl (by omega) ?_ | refine D_pure tabOk rfl ?_)
      refine D_q (Q_idx1 tabOk rfl rfl rfl rfl rfl rfl rfl (j := (k - 1)) (by omega) (by omega)) ?_
      refine D_load1 tabOk rfl rfl (v := .int .u64 d[(k - 1)]!) (fun w' hw => blkc hw (uA_get (by omega))) ?_
      skip
      refine D_callx rfl Try.call84 (v := .bool true) (fun w' vs hw' h => by obtain ⟨u1, _, rfl, rfl, u2, _, rfl, rfl, rfl⟩ := h; exact less_b hb w') ?_
      repeat (first | refine D_all rfl ?_ | refine D_pure tabOk rfl ?_)
      refine T_cond_f rfl ?_
      repeat (first | refine pthen_normal ?_ | refine inb_hit ?_ | refine pthen_exit ?_ | refine T_exit ?_)
      exact ⟨(), trivial, by repeat (first | exact Sub.nil | refine Sub.cons rfl ?_), fun w' hw => hw⟩
    | false =>
      rw [ss_step hc hb] at hk
      repeat (first | refine T_draw (by kernel_rfl) (by kernel_rfl) ?_ | refine D_pure tabOk rfl ?_ | refine T_seq ?_)
      refine D_re 20 (v' := .bool true) rfl (congrArg Value.bool (decide_eq_true (by omega))) ?_
      repeat (first | refine D_pure tabOk rfl ?_)
      refine D_q (Q_idx1 tabOk rfl rfl rfl rfl rfl rfl rfl (j := t) (by omega) (by omega)) ?_
      refine D_load1 tabOk rfl rfl (v := .int .u64 d[t]!) (fun w' hw => blkc hw (uA_get (by omega))) ?_
      repeat (first | refine D_i64 tabOk rfl (by omega) ?_ | refine D_pure tabOk rfl ?_)
      refine D_q (Q_idx1 tabOk rfl rfl rfl rfl rfl rfl rfl (j := (t - 1)) (by omega) (by omega)) ?_
      refine D_load1 tabOk rfl rfl (v := .int .u64 d[(t - 1)]!) (fun w' hw => blkc hw (uA_get (by omega))) ?_
      skip
      refine D_callx rfl Try.call84 (v := .bool false) (fun w' vs hw' h => by obtain ⟨u1, _, rfl, rfl, u2, _, rfl, rfl, rfl⟩ := h; exact less_b hb w') ?_
      repeat (first | refine D_all rfl ?_ | refine D_pure tabOk rfl ?_)
      refine T_cond_t rfl ?_
      repeat (first | refine T_block ?_ | refine S_nil ?_ | refine pthen_normal ?_ | refine inb_normal ?_ | refine T_skip ?_ | refine S_i64 tabOk rfl (by omega) ?_ | refine S_pure tabOk rfl ?_ | refine T_region_any ?_)
      exact ⟨t + 1, ⟨by omega, by omega, hk⟩, (by repeat (first | exact Sub.nil | refine Sub.cons rfl ?_)), fun w' hw => hw, by omega⟩
  rintro _ _
  clear hk
  repeat (first | refine T_seq ?_ | refine T_region ?_ | refine S_nil ?_ | refine S_pure tabOk rfl ?_)
  refine T_cond_dec rfl (fun hc => ?_) (fun hc => ?_)
  · rw [if_pos (by omega)] at hR
    subst hR
    repeat (first | refine T_seq ?_ | refine T_region ?_ | refine S_nil ?_ | refine inb_ret ?_ | refine pthen_ret ?_ | refine T_ret ?_ | refine S_pure tabOk rfl ?_)
    exact ret1 rfl rfl (fun w' hw => ⟨rfl, hw, hd⟩)
  rw [if_neg (by omega)] at hR
  repeat (first | refine T_seq ?_ | refine T_region ?_ | refine S_nil ?_ | refine pthen_normal ?_ | refine T_skip ?_ | refine S_i64 tabOk rfl (by omega) ?_ | refine S_pure tabOk rfl ?_)
  refine T_cond_dec rfl (fun hc2 => ?_) (fun hc2 => ?_)
  · rw [if_pos (by omega)] at hR
    subst hR
    repeat (first | refine T_seq ?_ | refine T_region ?_ | refine S_nil ?_ | refine inb_ret ?_ | refine pthen_ret ?_ | refine T_ret ?_ | refine S_pure tabOk rfl ?_)
    exact ret1 rfl rfl (fun w' hw => ⟨rfl, hw, hd⟩)
  rw [if_neg (by omega)] at hR
  repeat (first | refine T_seq ?_ | refine T_skip ?_ | refine pthen_normal ?_)
  have hs := swp_size d k (k - 1)
  let ol0 : OL := uE g 59 d junk :: rest
  let ol1 : OL := .blk g (.cells ⟨(uA d junk).set k (.int .u64 d[(k - 1)]!)⟩ 59 (0, 0)) true :: rest
  let ol2 : OL := uE g 59 (swp d k (k - 1)) junk :: rest
  let olf : (Nat → Bool) → OL := fun L => match L 17 with
    | true => ol2
    | false => match L 15 with
      | true => ol1
      | false => ol0
  refine T_drawS (by kernel_rfl) (by kernel_rfl) [.slice (some ⟨g, 0, none⟩) n c, .int .i64 (k : Int), .slice (some ⟨g, 0, none⟩) n c, .int .i64 (k : Int), .int .i64 ((k : Int) - 1), .slice (some ⟨g, 0, none⟩) n c, .int .i64 (k : Int), .int .i64 ((k : Int) - 1), .pointer (some ⟨g, 0 + (k - 1), none⟩), .int .u64 d[(k - 1)]!, .slice (some ⟨g, 0, none⟩) n c, .int .i64 (k : Int), .pointer (some ⟨g, 0 + k, none⟩), .int .u64 d[k]!, .pointer (some ⟨g, 0 + k, none⟩), undef, .pointer (some ⟨g, 0 + (k - 1), none⟩), undef] rfl olf rfl ?_ (l' := [(0, .slice (some ⟨g, 0, none⟩) n c), (1, .int .i64 (a : Int)), (2, .int .i64 (b : Int)), (7, .int .i64 (k : Int)), (8, .int .i64 z)]) (ol' := ol2) (fun L h => by simp only [olf, h 17 (by decide)]) (by repeat (first | exact SubD.nil | refine SubD.cons rfl ?_)) ?_
  · refine ⟨?_, ?_, ?_, ?_, ?_, ?_, ?_, ?_, ?_, ?_, ?_, ?_, ?_, ?_, ?_, ?_, ?_, ?_, trivial⟩
    · exact fun L hc hl hp => OpS.ofD rfl (D_pure tabOk rfl D_last)
    · exact fun L hc hl hp => OpS.ofD rfl (D_pure tabOk rfl D_last)
    · exact fun L hc hl hp => OpS.ofD rfl (D_pure tabOk rfl D_last)
    · exact fun L hc hl hp => OpS.ofD rfl (D_pure tabOk rfl D_last)
    · exact fun L hc hl hp => OpS.ofD rfl (D_i64 tabOk rfl (by omega) D_last)
    · exact fun L hc hl hp => OpS.ofD rfl (D_pure tabOk rfl D_last)
    · exact fun L hc hl hp => OpS.ofD rfl (D_pure tabOk rfl D_last)
    · exact fun L hc hl hp => OpS.ofD rfl (D_i64 tabOk rfl (by omega) D_last)
    · exact fun L hc hl hp => OpS.ofD rfl (D_q (Q_idx1 tabOk rfl rfl rfl rfl rfl rfl rfl (j := (k - 1)) (by omega) (by omega)) D_last)
    · intro L hc hl hp
      have h15 := closed_no hc (j := 15) rfl ⟨9, .data⟩ (by simp) rfl hl
      have h17 := closed_no hc (j := 17) rfl ⟨9, .phase⟩ (by simp) rfl hl
      have e1 : olf L = ol0 := by simp only [olf, h15, h17]
      have e2 : olf (add L 9) = ol0 := by simp [olf, add, h15, h17]
      rw [e1, e2]
      exact OpS.ofD rfl (D_load1 tabOk (v := .int .u64 d[(k - 1)]!) rfl rfl (fun w' hw => blkc hw (uA_get (by omega))) D_last)
    · exact fun L hc hl hp => OpS.ofD rfl (D_pure tabOk rfl D_last)
    · exact fun L hc hl hp => OpS.ofD rfl (D_pure tabOk rfl D_last)
    · exact fun L hc hl hp => OpS.ofD rfl (D_q (Q_idx1 tabOk rfl rfl rfl rfl rfl rfl rfl (j := k) (by omega) (by omega)) D_last)
    · intro L hc hl hp
      have h15 := closed_no hc (j := 15) rfl ⟨13, .phase⟩ (by simp) rfl hl
      have h17 := closed_no hc (j := 17) rfl ⟨13, .data⟩ (by simp) rfl hl
      have e1 : olf L = ol0 := by simp only [olf, h15, h17]
      have e2 : olf (add L 13) = ol0 := by simp [olf, add, h15, h17]
      rw [e1, e2]
      exact OpS.ofD rfl (D_load1 tabOk (v := .int .u64 d[k]!) rfl rfl (fun w' hw => blkc hw (uA_get (by omega))) D_last)
    · exact fun L hc hl hp => OpS.ofD rfl (D_q (Q_idx1 tabOk rfl rfl rfl rfl rfl rfl rfl (j := k) (by omega) (by omega)) D_last)
    · intro L hc hl hp
      have h17 := closed_no hc (j := 17) rfl ⟨15, .chain⟩ (by simp) rfl hl
      have e1 : olf L = ol0 := by simp only [olf, hl, h17]
      have e2 : olf (add L 15) = ol1 := by simp [olf, add, h17]
      rw [e1, e2]
      exact OpS.store tabOk 0 rfl rfl (by intro x hx; rw [List.mem_singleton] at hx; subst hx; rfl) rfl (by rw [Nat.zero_add]; exact setMany_1 (by rw [uA_len]; omega)) rfl
    · exact fun L hc hl hp => OpS.ofD rfl (D_q (Q_idx1 tabOk rfl rfl rfl rfl rfl rfl rfl (j := (k - 1)) (by omega) (by omega)) D_last)
    · intro L hc hl hp
      have h15 : L 15 = true := hp ⟨15, .chain⟩ (by simp) rfl
      have e1 : olf L = ol1 := by simp only [olf, h15, hl]
      have e2 : olf (add L 17) = ol2 := by simp [olf, add]
      rw [e1, e2]
      exact OpS.store tabOk 0 rfl rfl (by intro x hx; rw [List.mem_singleton] at hx; subst hx; rfl) rfl (by rw [Nat.zero_add]; exact (setMany_1 (by rw [List.length_set, uA_len]; omega)).trans (congrArg some (uA_swp (by omega) (by omega)))) rfl
  clear olf ol0 ol1
  dsimp only [ol2]
  clear ol2
  obtain ⟨d1, hd1⟩ : ∃ d1, d1 = swp d k (k - 1) := ⟨_, rfl⟩
  rw [← hd1] at hR hs ⊢
  replace hd : d1.size = n := by omega
  clear hd1 hs d
  obtain ⟨d, rfl⟩ : ∃ d, d = d1 := ⟨_, rfl⟩
  repeat (first | refine T_seq ?_ | refine T_region ?_ | refine S_nil ?_ | refine S_i64 tabOk rfl (by omega) ?_ | refine S_pure tabOk rfl ?_)
  obtain ⟨X, hX⟩ : ∃ X, X = fixDown ltI a k d := ⟨_, rfl⟩
  rw [← hX] at hR
  refine T_cut (ι := Array Int) (fun d' => d' = X ∧ d'.size = n) (fun _ => [(0, .slice (some ⟨g, 0, none⟩) n c), (1, .int .i64 (a : Int)), (2, .int .i64 (b : Int)), (7, .int .i64 (k : Int)), (8, .int .i64 z)]) (fun d' => uE g 59 d' junk :: rest) ?_ ?_
  · unfold fixDown at hX
    refine T_cond_dec rfl (fun hc3 => ?_) (fun hc3 => ?_)
    rotate_left
    · rw [if_neg (by omega)] at hX
      repeat (first | refine pthen_normal ?_ | refine T_skip ?_)
      exact ⟨d, ⟨hX.symm, hd⟩, by repeat (first | exact Sub.nil | refine Sub.cons rfl ?_), fun w' hw => hw⟩
    rw [if_pos (by omega)] at hX
    repeat (first | refine T_seq ?_ | refine T_region ?_ | refine S_nil ?_ | refine S_i64 tabOk rfl (by omega) ?_ | refine S_pure tabOk rfl ?_)
    refine T_block ?_
    refine T_loop (ι := SrI) (fun t => [(0, .slice (some ⟨g, 0, none⟩) n c), (1, .int .i64 (a : Int)), (2, .int .i64 (b : Int)), (7, .int .i64 (k : Int)), (8, .int .i64 z), (9, .int .i64 (t.i : Int))]) (fun t => uE g 59 t.d junk :: rest) (fun t => t.i < n ∧ t.d.size = n ∧ X = shiftDown ltI t.i t.d) (fun t => t.i) ⟨k - 1, d⟩ ⟨by dsimp only; omega, hd, hX⟩ (by dsimp only; repeat (first | exact Sub.nil | refine Sub.cons rfl ?_ | refine Sub.cons_int rfl (by omega) ?_)) (fun w' hw => hw) ?_
    clear hX
    rintro ⟨j, d⟩ ⟨hj, hd, hX⟩
    dsimp only at hj hd hX ⊢
    by_cases hc : 1 ≤ j
    rotate_left
    · rw [sd_stop (.inl (by omega))] at hX
      subst hX
      repeat (first | refine T_seq ?_ | refine T_region ?_ | refine S_nil ?_ | refine S_pure tabOk rfl ?_)
      refine T_cond_dec rfl (fun h => absurd h (by omega)) (fun _ => ?_)
      repeat (first | refine pthen_normal ?_ | refine inb_hit ?_ | refine pthen_exit ?_ | refine T_exit ?_)
      exact ⟨X, ⟨rfl, hd⟩, by repeat (first | exact Sub.nil | refine Sub.cons rfl ?_), fun w' hw => hw⟩
    cases hb : ltI d[j]! d[j - 1]! with
    | false =>
      rw [sd_stop (.inr hb)] at hX
      subst hX
      repeat (first | refine T_seq ?_ | refine T_region ?_ | refine S_nil ?_ | refine S_pure tabOk rfl ?_)
      refine T_cond_dec rfl (fun _ => ?_) (fun h => absurd (by omega) h)
      repeat (first | refine T_draw (by kernel_rfl) (by kernel_rfl) ?_ | refine D_pure tabOk rfl ?_ | refine T_seq ?_ | refine T_block ?_ | refine pthen_normal ?_ | refine T_skip ?_)
      refine D_q (Q_idx1 tabOk rfl rfl rfl rfl rfl rfl rfl (j := j) (by omega) (by omega)) ?_
      refine D_load1 tabOk rfl rfl (v := .int .u64 X[j]!) (fun w' hw => blkc hw (uA_get (by omega))) ?_
      repeat (first | refine D_i64 tabOk rfl (by omega) ?_ | refine D_pure tabOk rfl ?_)
      refine D_q (Q_idx1 tabOk rfl rfl rfl rfl rfl rfl rfl (j := (j - 1)) (by omega) (by omega)) ?_
      refine D_load1 tabOk rfl rfl (v := .int .u64 X[(j - 1)]!) (fun w' hw => blkc hw (uA_get (by omega))) ?_
      skip
      refine D_callx rfl Try.call84 (v := .bool false) (fun w' vs hw' h => by obtain ⟨u1, _, rfl, rfl, u2, _, rfl, rfl, rfl⟩ := h; exact less_b hb w') ?_
      repeat (first | refine D_all rfl ?_ | refine D_pure tabOk rfl ?_)
      refine T_cond_t rfl ?_
      repeat (first | refine pthen_exit ?_ | refine T_exit ?_)
      refine inb_miss rfl ?_
      repeat (first | refine pthen_normal ?_ | refine inb_hit ?_ | refine pthen_exit ?_)
      exact ⟨X, ⟨rfl, hd⟩, by repeat (first | exact Sub.nil | refine Sub.cons rfl ?_), fun w' hw => hw⟩
    | true =>
      rw [sd_step hc hb] at hX
      repeat (first | refine T_seq ?_ | refine T_region ?_ | refine S_nil ?_ | refine S_pure tabOk rfl ?_)
      refine T_cond_dec rfl (fun _ => ?_) (fun h => absurd (by omega) h)
      repeat (first | refine T_draw (by kernel_rfl) (by kernel_rfl) ?_ | refine D_pure tabOk rfl ?_ | refine T_seq ?_ | refine T_block ?_ | refine pthen_normal ?_ | refine T_skip ?_)
      refine D_q (Q_idx1 tabOk rfl rfl rfl rfl rfl rfl rfl (j := j) (by omega) (by omega)) ?_
      refine D_load1 tabOk rfl rfl (v := .int .u64 d[j]!) (fun w' hw => blkc hw (uA_get (by omega))) ?_
      repeat (first | refine D_i64 tabOk rfl (by omega) ?_ | refine D_pure tabOk rfl ?_)
      refine D_q (Q_idx1 tabOk rfl rfl rfl rfl rfl rfl rfl (j := (j - 1)) (by omega) (by omega)) ?_
      refine D_load1 tabOk rfl rfl (v := .int .u64 d[(j - 1)]!) (fun w' hw => blkc hw (uA_get (by omega))) ?_
      skip
      refine D_callx rfl Try.call84 (v := .bool true) (fun w' vs hw' h => by obtain ⟨u1, _, rfl, rfl, u2, _, rfl, rfl, rfl⟩ := h; exact less_b hb w') ?_
      repeat (first | refine D_all rfl ?_ | refine D_pure tabOk rfl ?_)
      refine T_cond_f rfl ?_
      repeat (first | refine T_skip ?_ | refine pthen_normal ?_)
      have hs := swp_size d j (j - 1)
      let ol0 : OL := uE g 59 d junk :: rest
      let ol1 : OL := .blk g (.cells ⟨(uA d junk).set j (.int .u64 d[(j - 1)]!)⟩ 59 (0, 0)) true :: rest
      let ol2 : OL := uE g 59 (swp d j (j - 1)) junk :: rest
      let olf : (Nat → Bool) → OL := fun L => match L 17 with
        | true => ol2
        | false => match L 15 with
          | true => ol1
          | false => ol0
      refine T_asThen ?_
      refine T_drawS (by kernel_rfl) (by kernel_rfl) [.slice (some ⟨g, 0, none⟩) n c, .int .i64 (j : Int), .slice (some ⟨g, 0, none⟩) n c, .int .i64 (j : Int), .int .i64 ((j : Int) - 1), .slice (some ⟨g, 0, none⟩) n c, .int .i64 (j : Int), .int .i64 ((j : Int) - 1), .pointer (some ⟨g, 0 + (j - 1), none⟩), .int .u64 d[(j - 1)]!, .slice (some ⟨g, 0, none⟩) n c, .int .i64 (j : Int), .pointer (some ⟨g, 0 + j, none⟩), .int .u64 d[j]!, .pointer (some ⟨g, 0 + j, none⟩), undef, .pointer (some ⟨g, 0 + (j - 1), none⟩), undef] rfl olf rfl ?_ (l' := [(0, .slice (some ⟨g, 0, none⟩) n c), (1, .int .i64 (a : Int)), (2, .int .i64 (b : Int)), (7, .int .i64 (k : Int)), (8, .int .i64 z), (9, .int .i64 (j : Int))]) (ol' := ol2) (fun L h => by simp only [olf, h 17 (by decide)]) (by repeat (first | exact SubD.nil | refine SubD.cons rfl ?_)) ?_
      · refine ⟨?_, ?_, ?_, ?_, ?_, ?_, ?_, ?_, ?_, ?_, ?_, ?_, ?_, ?_, ?_, ?_, ?_, ?_, trivial⟩
        · exact fun L hc hl hp => OpS.ofD rfl (D_pure tabOk rfl D_last)
        · exact fun L hc hl hp => OpS.ofD rfl (D_pure tabOk rfl D_last)
        · exact fun L hc hl hp => OpS.ofD rfl (D_pure tabOk rfl D_last)
        · exact fun L hc hl hp => OpS.ofD rfl (D_pure tabOk rfl D_last)
        · exact fun L hc hl hp => OpS.ofD rfl (D_i64 tabOk rfl (by omega) D_last)
        · exact fun L hc hl hp => OpS.ofD rfl (D_pure tabOk rfl D_last)
        · exact fun L hc hl hp => OpS.ofD rfl (D_pure tabOk rfl D_last)
        · exact fun L hc hl hp => OpS.ofD rfl (D_i64 tabOk rfl (by omega) D_last)
        · exact fun L hc hl hp => OpS.ofD rfl (D_q (Q_idx1 tabOk rfl rfl rfl rfl rfl rfl rfl (j := (j - 1)) (by omega) (by omega)) D_last)
        · intro L hc hl hp
          have h15 := closed_no hc (j := 15) rfl ⟨9, .data⟩ (by simp) rfl hl
          have h17 := closed_no hc (j := 17) rfl ⟨9, .phase⟩ (by simp) rfl hl
          have e1 : olf L = ol0 := by simp only [olf, h15, h17]
          have e2 : olf (add L 9) = ol0 := by simp [olf, add, h15, h17]
          rw [e1, e2]
          exact OpS.ofD rfl (D_load1 tabOk (v := .int .u64 d[(j - 1)]!) rfl rfl (fun w' hw => blkc hw (uA_get (by omega))) D_last)
        · exact fun L hc hl hp => OpS.ofD rfl (D_pure tabOk rfl D_last)
        · exact fun L hc hl hp => OpS.ofD rfl (D_pure tabOk rfl D_last)
        · exact fun L hc hl hp => OpS.ofD rfl (D_q (Q_idx1 tabOk rfl rfl rfl rfl rfl rfl rfl (j := j) (by omega) (by omega)) D_last)
        · intro L hc hl hp
          have h15 := closed_no hc (j := 15) rfl ⟨13, .phase⟩ (by simp) rfl hl
          have h17 := closed_no hc (j := 17) rfl ⟨13, .data⟩ (by simp) rfl hl
          have e1 : olf L = ol0 := by simp only [olf, h15, h17]
          have e2 : olf (add L 13) = ol0 := by simp [olf, add, h15, h17]
          rw [e1, e2]
          exact OpS.ofD rfl (D_load1 tabOk (v := .int .u64 d[j]!) rfl rfl (fun w' hw => blkc hw (uA_get (by omega))) D_last)
        · exact fun L hc hl hp => OpS.ofD rfl (D_q (Q_idx1 tabOk rfl rfl rfl rfl rfl rfl rfl (j := j) (by omega) (by omega)) D_last)
        · intro L hc hl hp
          have h17 := closed_no hc (j := 17) rfl ⟨15, .chain⟩ (by simp) rfl hl
          have e1 : olf L = ol0 := by simp only [olf, hl, h17]
          have e2 : olf (add L 15) = ol1 := by simp [olf, add, h17]
          rw [e1, e2]
          exact OpS.store tabOk 0 rfl rfl (by intro x hx; rw [List.mem_singleton] at hx; subst hx; rfl) rfl (by rw [Nat.zero_add]; exact setMany_1 (by rw [uA_len]; omega)) rfl
        · exact fun L hc hl hp => OpS.ofD rfl (D_q (Q_idx1 tabOk rfl rfl rfl rfl rfl rfl rfl (j := (j - 1)) (by omega) (by omega)) D_last)
        · intro L hc hl hp
          have h15 : L 15 = true := hp ⟨15, .chain⟩ (by simp) rfl
          have e1 : olf L = ol1 := by simp only [olf, h15, hl]
          have e2 : olf (add L 17) = ol2 := by simp [olf, add]
          rw [e1, e2]
          exact OpS.store tabOk 0 rfl rfl (by intro x hx; rw [List.mem_singleton] at hx; subst hx; rfl) rfl (by rw [Nat.zero_add]; exact (setMany_1 (by rw [List.length_set, uA_len]; omega)).trans (congrArg some (uA_swp (by omega) (by omega)))) rfl
      clear olf ol0 ol1
      dsimp only [ol2]
      clear ol2
      repeat (first | refine T_region ?_ | refine S_nil ?_ | refine pthen_normal ?_ | refine inb_normal ?_ | refine S_i64 tabOk rfl (by omega) ?_ | refine S_pure tabOk rfl ?_)
      exact ⟨⟨j - 1, swp d j (j - 1)⟩, ⟨by dsimp only; omega, by dsimp only; omega, hX⟩, (by dsimp only; repeat (first | exact Sub.nil | refine Sub.cons rfl ?_ | refine Sub.cons_int rfl (by omega) ?_)), fun w' hw => hw, by dsimp only; omega⟩
  clear hX hd
  rintro d' ⟨hd1, hd⟩
  rw [← hd1] at hR
  clear hd1 X d
  obtain ⟨d, rfl⟩ : ∃ d, d = d' := ⟨_, rfl⟩
  repeat (first | refine T_seq ?_ | refine T_region ?_ | refine S_nil ?_ | refine S_i64 tabOk rfl (by omega) ?_ | refine S_pure tabOk rfl ?_)
  obtain ⟨X, hX⟩ : ∃ X, X = fixUp ltI b k d := ⟨_, rfl⟩
  rw [← hX] at hR
  refine T_asThen ?_
  refine T_cut (ι := Array Int) (fun d' => d' = X ∧ d'.size = n) (fun _ => [(0, .slice (some ⟨g, 0, none⟩) n c), (1, .int .i64 (a : Int)), (2, .int .i64 (b : Int)), (7, .int .i64 (k : Int)), (8, .int .i64 z)]) (fun d' => uE g 59 d' junk :: rest) ?_ ?_
  · unfold fixUp at hX
    refine T_cond_dec rfl (fun hc3 => ?_) (fun hc3 => ?_)
    rotate_left
    · rw [if_neg (by omega)] at hX
      repeat (first | refine pthen_normal ?_ | refine T_skip ?_)
      exact ⟨d, ⟨hX.symm, hd⟩, by repeat (first | exact Sub.nil | refine Sub.cons rfl ?_), fun w' hw => hw⟩
    rw [if_pos (by omega)] at hX
    repeat (first | refine T_seq ?_ | refine T_region ?_ | refine S_nil ?_ | refine S_i64 tabOk rfl (by omega) ?_ | refine S_pure tabOk rfl ?_)
    refine T_block ?_
    refine T_loop (ι := SrI) (fun t => [(0, .slice (some ⟨g, 0, none⟩) n c), (1, .int .i64 (a : Int)), (2, .int .i64 (b : Int)), (7, .int .i64 (k : Int)), (8, .int .i64 z), (10, .int .i64 (t.i : Int))]) (fun t => uE g 59 t.d junk :: rest) (fun t => 1 ≤ t.i ∧ t.d.size = n ∧ X = shiftUp ltI b t.i t.d) (fun t => b - t.i) ⟨k + 1, d⟩ ⟨by dsimp only; omega, hd, hX⟩ (by dsimp only; repeat (first | exact Sub.nil | refine Sub.cons rfl ?_)) (fun w' hw => hw) ?_
    clear hX
    rintro ⟨j, d⟩ ⟨hj, hd, hX⟩
    dsimp only at hj hd hX ⊢
    by_cases hc : j < b
    rotate_left
    · rw [su_stop (.inl (by omega))] at hX
      subst hX
      repeat (first | refine T_seq ?_ | refine T_region ?_ | refine S_nil ?_ | refine S_pure tabOk rfl ?_)
      refine T_cond_dec rfl (fun h => absurd h (by omega)) (fun _ => ?_)
      repeat (first | refine pthen_normal ?_ | refine inb_hit ?_ | refine pthen_exit ?_ | refine T_exit ?_)
      exact ⟨X, ⟨rfl, hd⟩, by repeat (first | exact Sub.nil | refine Sub.cons rfl ?_), fun w' hw => hw⟩
    cases hb : ltI d[j]! d[j - 1]! with
    | false =>
      rw [su_stop (.inr hb)] at hX
      subst hX
      repeat (first | refine T_seq ?_ | refine T_region ?_ | refine S_nil ?_ | refine S_pure tabOk rfl ?_)
      refine T_cond_dec rfl (fun _ => ?_) (fun h => absurd (by omega) h)
      repeat (first | refine T_draw (by kernel_rfl) (by kernel_rfl) ?_ | refine D_pure tabOk rfl ?_ | refine T_seq ?_ | refine T_block ?_ | refine pthen_normal ?_ | refine T_skip ?_)
      refine D_q (Q_idx1 tabOk rfl rfl rfl rfl rfl rfl rfl (j := j) (by omega) (by omega)) ?_
      refine D_load1 tabOk rfl rfl (v := .int .u64 X[j]!) (fun w' hw => blkc hw (uA_get (by omega))) ?_
      repeat (first | refine D_i64 tabOk rfl (by omega) ?_ | refine D_pure tabOk rfl ?_)
      refine D_q (Q_idx1 tabOk rfl rfl rfl rfl rfl rfl rfl (j := (j - 1)) (by omega) (by omega)) ?_
      refine D_load1 tabOk rfl rfl (v := .int .u64 X[(j - 1)]!) (fun w' hw => blkc hw (uA_get (by omega))) ?_
      skip
      refine D_callx rfl Try.call84 (v := .bool false) (fun w' vs hw' h => by obtain ⟨u1, _, rfl, rfl, u2, _, rfl, rfl, rfl⟩ := h; exact less_b hb w') ?_
      repeat (first | refine D_all rfl ?_ | refine D_pure tabOk rfl ?_)
      refine T_cond_t rfl ?_
      repeat (first | refine pthen_exit ?_ | refine T_exit ?_)
      refine inb_miss rfl ?_
      repeat (first | refine pthen_normal ?_ | refine inb_hit ?_ | refine pthen_exit ?_)
      exact ⟨X, ⟨rfl, hd⟩, by repeat (first | exact Sub.nil | refine Sub.cons rfl ?_), fun w' hw => hw⟩
    | true =>
      rw [su_step hc hb] at hX
      repeat (first | refine T_seq ?_ | refine T_region ?_ | refine S_nil ?_ | refine S_pure tabOk rfl ?_)
      refine T_cond_dec rfl (fun _ => ?_) (fun h => absurd (by omega) h)
      repeat (first | refine T_draw (by kernel_rfl) (by kernel_rfl) ?_ | refine D_pure tabOk rfl ?_ | refine T_seq ?_ | refine T_block ?_ | refine pthen_normal ?_ | refine T_skip ?_)
      refine D_q (Q_idx1 tabOk rfl rfl rfl rfl rfl rfl rfl (j := j) (by omega) (by omega)) ?_
      refine D_load1 tabOk rfl rfl (v := .int .u64 d[j]!) (fun w' hw => blkc hw (uA_get (by omega))) ?_
      repeat (first | refine D_i64 tabOk rfl (by omega) ?_ | refine D_pure tabOk rfl ?_)
      refine D_q (Q_idx1 tabOk rfl rfl rfl rfl rfl rfl rfl (j := (j - 1)) (by omega) (by omega)) ?_
      refine D_load1 tabOk rfl rfl (v := .int .u64 d[(j - 1)]!) (fun w' hw => blkc hw (uA_get (by omega))) ?_
      skip
      refine D_callx rfl Try.call84 (v := .bool true) (fun w' vs hw' h => by obtain ⟨u1, _, rfl, rfl, u2, _, rfl, rfl, rfl⟩ := h; exact less_b hb w') ?_
      repeat (first | refine D_all rfl ?_ | refine D_pure tabOk rfl ?_)
      refine T_cond_f rfl ?_
      repeat (first | refine T_skip ?_ | refine pthen_normal ?_)
      have hs := swp_size d j (j - 1)
      let ol0 : OL := uE g 59 d junk :: rest
      let ol1 : OL := .blk g (.cells ⟨(uA d junk).set j (.int .u64 d[(j - 1)]!)⟩ 59 (0, 0)) true :: rest
      let ol2 : OL := uE g 59 (swp d j (j - 1)) junk :: rest
      let olf : (Nat → Bool) → OL := fun L => match L 17 with
        | true => ol2
        | false => match L 15 with
          | true => ol1
          | false => ol0
      refine T_asThen ?_
      refine T_drawS (by kernel_rfl) (by kernel_rfl) [.slice (some ⟨g, 0, none⟩) n c, .int .i64 (j : Int), .slice (some ⟨g, 0, none⟩) n c, .int .i64 (j : Int), .int .i64 ((j : Int) - 1), .slice (some ⟨g, 0, none⟩) n c, .int .i64 (j : Int), .int .i64 ((j : Int) - 1), .pointer (some ⟨g, 0 + (j - 1), none⟩), .int .u64 d[(j - 1)]!, .slice (some ⟨g, 0, none⟩) n c, .int .i64 (j : Int), .pointer (some ⟨g, 0 + j, none⟩), .int .u64 d[j]!, .pointer (some ⟨g, 0 + j, none⟩), undef, .pointer (some ⟨g, 0 + (j - 1), none⟩), undef] rfl olf rfl ?_ (l' := [(0, .slice (some ⟨g, 0, none⟩) n c), (1, .int .i64 (a : Int)), (2, .int .i64 (b : Int)), (7, .int .i64 (k : Int)), (8, .int .i64 z), (10, .int .i64 (j : Int))]) (ol' := ol2) (fun L h => by simp only [olf, h 17 (by decide)]) (by repeat (first | exact SubD.nil | refine SubD.cons rfl ?_)) ?_
      · refine ⟨?_, ?_, ?_, ?_, ?_, ?_, ?_, ?_, ?_, ?_, ?_, ?_, ?_, ?_, ?_, ?_, ?_, ?_, trivial⟩
        · exact fun L hc hl hp => OpS.ofD rfl (D_pure tabOk rfl D_last)
        · exact fun L hc hl hp => OpS.ofD rfl (D_pure tabOk rfl D_last)
        · exact fun L hc hl hp => OpS.ofD rfl (D_pure tabOk rfl D_last)
        · exact fun L hc hl hp => OpS.ofD rfl (D_pure tabOk rfl D_last)
        · exact fun L hc hl hp => OpS.ofD rfl (D_i64 tabOk rfl (by omega) D_last)
        · exact fun L hc hl hp => OpS.ofD rfl (D_pure tabOk rfl D_last)
        · exact fun L hc hl hp => OpS.ofD rfl (D_pure tabOk rfl D_last)
        · exact fun L hc hl hp => OpS.ofD rfl (D_i64 tabOk rfl (by omega) D_last)
        · exact fun L hc hl hp => OpS.ofD rfl (D_q (Q_idx1 tabOk rfl rfl rfl rfl rfl rfl rfl (j := (j - 1)) (by omega) (by omega)) D_last)
        · intro L hc hl hp
          have h15 := closed_no hc (j := 15) rfl ⟨9, .data⟩ (by simp) rfl hl
          have h17 := closed_no hc (j := 17) rfl ⟨9, .phase⟩ (by simp) rfl hl
          have e1 : olf L = ol0 := by simp only [olf, h15, h17]
          have e2 : olf (add L 9) = ol0 := by simp [olf, add, h15, h17]
          rw [e1, e2]
          exact OpS.ofD rfl (D_load1 tabOk (v := .int .u64 d[(j - 1)]!) rfl rfl (fun w' hw => blkc hw (uA_get (by omega))) D_last)
        · exact fun L hc hl hp => OpS.ofD rfl (D_pure tabOk rfl D_last)
        · exact fun L hc hl hp => OpS.ofD rfl (D_pure tabOk rfl D_last)
        · exact fun L hc hl hp => OpS.ofD rfl (D_q (Q_idx1 tabOk rfl rfl rfl rfl rfl rfl rfl (j := j) (by omega) (by omega)) D_last)
        · intro L hc hl hp
          have h15 := closed_no hc (j := 15) rfl ⟨13, .phase⟩ (by simp) rfl hl
          have h17 := closed_no hc (j := 17) rfl ⟨13, .data⟩ (by simp) rfl hl
          have e1 : olf L = ol0 := by simp only [olf, h15, h17]
          have e2 : olf (add L 13) = ol0 := by simp [olf, add, h15, h17]
          rw [e1, e2]
          exact OpS.ofD rfl (D_load1 tabOk (v := .int .u64 d[j]!) rfl rfl (fun w' hw => blkc hw (uA_get (by omega))) D_last)
        · exact fun L hc hl hp => OpS.ofD rfl (D_q (Q_idx1 tabOk rfl rfl rfl rfl rfl rfl rfl (j := j) (by omega) (by omega)) D_last)
        · intro L hc hl hp
          have h17 := closed_no hc (j := 17) rfl ⟨15, .chain⟩ (by simp) rfl hl
          have e1 : olf L = ol0 := by simp only [olf, hl, h17]
          have e2 : olf (add L 15) = ol1 := by simp [olf, add, h17]
          rw [e1, e2]
          exact OpS.store tabOk 0 rfl rfl (by intro x hx; rw [List.mem_singleton] at hx; subst hx; rfl) rfl (by rw [Nat.zero_add]; exact setMany_1 (by rw [uA_len]; omega)) rfl
        · exact fun L hc hl hp => OpS.ofD rfl (D_q (Q_idx1 tabOk rfl rfl rfl rfl rfl rfl rfl (j := (j - 1)) (by omega) (by omega)) D_last)
        · intro L hc hl hp
          have h15 : L 15 = true := hp ⟨15, .chain⟩ (by simp) rfl
          have e1 : olf L = ol1 := by simp only [olf, h15, hl]
          have e2 : olf (add L 17) = ol2 := by simp [olf, add]
          rw [e1, e2]
          exact OpS.store tabOk 0 rfl rfl (by intro x hx; rw [List.mem_singleton] at hx; subst hx; rfl) rfl (by rw [Nat.zero_add]; exact (setMany_1 (by rw [List.length_set, uA_len]; omega)).trans (congrArg some (uA_swp (by omega) (by omega)))) rfl
      clear olf ol0 ol1
      dsimp only [ol2]
      clear ol2
      repeat (first | refine T_region ?_ | refine S_nil ?_ | refine pthen_normal ?_ | refine inb_normal ?_ | refine S_i64 tabOk rfl (by omega) ?_ | refine S_pure tabOk rfl ?_)
      exact ⟨⟨j + 1, swp d j (j - 1)⟩, ⟨by dsimp only; omega, by dsimp only; omega, hX⟩, (by dsimp only; repeat (first | exact Sub.nil | refine Sub.cons rfl ?_)), fun w' hw => hw, by dsimp only; omega⟩
  clear hX hd
  rintro d' ⟨hd1, hd⟩
  rw [← hd1] at hR
  repeat (first | refine T_region ?_ | refine S_nil ?_ | refine pthen_normal ?_ | refine inb_normal ?_ | refine S_i64 tabOk rfl (by omega) ?_ | refine S_pure tabOk rfl ?_)
  exact ⟨⟨s, k, d'⟩, ⟨by dsimp only; omega, by dsimp only; omega, by dsimp only; omega, hd, hR⟩, (by dsimp only; repeat (first | exact Sub.nil | refine Sub.cons rfl ?_ | refine Sub.cons_int rfl (by omega) ?_)), fun w' hw => hw, by dsimp only; omega⟩
end Go.Proofs.Yteogkadjambmkaa
