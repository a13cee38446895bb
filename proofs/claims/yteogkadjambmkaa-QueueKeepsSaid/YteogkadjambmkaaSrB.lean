/-
  slices.Sort at uint64: insertion, heap, reversal. Conditions: each theorem's own. (Made by genSr.py.)
-/
import Derived.Test.YteogkadjambmkaaSrA
namespace Go.Proofs.Yteogkadjambmkaa
open Go Go.RowKit Go.Sort
set_option linter.unusedVariables false

theorem insInner_stop {a j : Nat} {d : Array Int} (h : j ≤ a ∨ ltI d[j]! d[j - 1]! = false) : insInner ltI a j d = d := by
  cases j with
  | zero => rfl
  | succ j =>
    unfold insInner
    rw [if_neg]
    intro hh
    rw [Bool.and_eq_true, decide_eq_true_eq] at hh
    rcases h with h | h
    · omega
    · rw [Nat.add_sub_cancel] at h
      rw [h] at hh
      exact absurd hh.2 (by decide)
theorem insInner_step {a j : Nat} {d : Array Int} (h : a < j) (hl : ltI d[j]! d[j - 1]! = true) : insInner ltI a j d = insInner ltI a (j - 1) (swp d j (j - 1)) := by
  obtain ⟨k, rfl⟩ : ∃ k, j = k + 1 := ⟨j - 1, by omega⟩
  rw [Nat.add_sub_cancel] at hl ⊢
  conv => lhs; unfold insInner
  rw [if_pos (by rw [Bool.and_eq_true, decide_eq_true_eq]; exact ⟨h, hl⟩)]
structure SrI where
  i : Nat
  d : Array Int
set_option maxHeartbeats 4000000 in
theorem ins_ok {w0 w : World} {g c n : Nat} {d0 : Array Int} {junk : List Value} {rest : OL} (a b : Nat) (h : Hp w0 w (uE g 59 d0 junk :: rest)) (hn : d0.size = n) (hab : a ≤ b) (hb : b ≤ n) (hm : n ≤ 4611686018427387904) : Calls Try.prog 78 #[.slice (some ⟨g, 0, none⟩) n c, .int .i64 (a : Int), .int .i64 (b : Int)] w fun e w' => e = .returned (.tuple #[]) ∧ Hp w0 w' (uE g 59 (insertionSort ltI d0 a b) junk :: rest) ∧ (insertionSort ltI d0 a b).size = n := by
  refine enterW3 Try.func78 rfl rfl h ?_
  obtain ⟨R, hR⟩ : ∃ R, R = insertionSort ltI d0 a b := ⟨_, rfl⟩
  rw [← hR]
  unfold insertionSort at hR
  repeat (first | refine T_seq ?_ | refine T_region ?_ | refine T_block ?_ | refine S_nil ?_ | refine S_i64 tabOk rfl (by omega) ?_ | refine S_pure tabOk rfl ?_)
  refine T_loop (ι := SrI) (fun i => [(0, .slice (some ⟨g, 0, none⟩) n c), (1, .int .i64 (a : Int)), (2, .int .i64 (b : Int)), (6, .int .i64 (i.i : Int))]) (fun i => uE g 59 i.d junk :: rest) (fun i => a + 1 ≤ i.i ∧ i.d.size = n ∧ R = insOuter ltI a b i.i i.d) (fun i => b - i.i) ⟨a + 1, d0⟩ ⟨Nat.le_refl _, hn, hR⟩ (by repeat (first | exact Sub.nil | refine Sub.cons rfl ?_)) (fun w' hw => hw) ?_
  rintro ⟨i, d⟩ ⟨hi, hd, hR⟩
  dsimp only at hi hd hR ⊢
  unfold insOuter at hR
  repeat (first | refine T_seq ?_ | refine T_region ?_ | refine S_nil ?_ | refine S_pure tabOk rfl ?_)
  refine T_cond_dec rfl (fun h => ?_) (fun h => ?_)
  rotate_left
  · rw [if_neg (by omega)] at hR
    subst hR
    repeat (first | refine inb_hit ?_ | refine pthen_exit ?_ | refine T_exit ?_)
    exact ret0n rfl (fun w' hw => ⟨rfl, hw, hd⟩)
  rw [if_pos (by omega)] at hR
  repeat (first | refine T_seq ?_ | refine T_region ?_ | refine T_block ?_ | refine S_nil ?_ | refine pthen_normal ?_ | refine T_skip ?_ | refine S_pure tabOk rfl ?_)
  obtain ⟨R2, hR2⟩ : ∃ R, R = insInner ltI a i d := ⟨_, rfl⟩
  rw [← hR2] at hR
  refine T_loop (ι := SrI) (fun j => [(0, .slice (some ⟨g, 0, none⟩) n c), (1, .int .i64 (a : Int)), (2, .int .i64 (b : Int)), (6, .int .i64 (i : Int)), (7, .int .i64 (j.i : Int))]) (fun j => uE g 59 j.d junk :: rest) (fun j => j.i ≤ i ∧ j.d.size = n ∧ R2 = insInner ltI a j.i j.d) (fun j => j.i) ⟨i, d⟩ ⟨Nat.le_refl _, hd, hR2⟩ (by repeat (first | exact Sub.nil | refine Sub.cons rfl ?_)) (fun w' hw => hw) ?_
  rintro ⟨j, d⟩ ⟨hj, hd, hR2⟩
  dsimp only at hj hd hR2 ⊢
  by_cases h1 : a < j
  rotate_left
  · rw [insInner_stop (.inl (by omega))] at hR2
    subst hR2
    repeat (first | refine T_draw (by kernel_rfl) (by kernel_rfl) ?_ | refine D_pure tabOk rfl ?_ | refine T_seq ?_)
    refine D_re 19 (v' := .bool false) rfl (congrArg Value.bool (decide_eq_false (by omega))) ?_
    repeat (first | refine D_all rfl ?_ | refine D_pure tabOk rfl ?_ | refine D_pass rfl rfl rfl ?_)
    refine T_cond_f rfl ?_
    repeat (first | refine T_region ?_ | refine S_nil ?_ | refine pthen_normal ?_ | refine inb_normal ?_ | refine inb_hit ?_ | refine pthen_exit ?_ | refine T_exit ?_ | refine S_i64 tabOk rfl (by omega) ?_ | refine S_pure tabOk rfl ?_)
    exact ⟨⟨i + 1, R2⟩, ⟨by dsimp only; omega, hd, hR⟩, by repeat (first | exact Sub.nil | refine Sub.cons rfl ?_), fun w' hw => hw, by dsimp only; omega⟩
  cases hb : ltI d[j]! d[j - 1]! with
  | false =>
    rw [insInner_stop (.inr hb)] at hR2
    subst hR2
    repeat (first | refine T_draw (by kernel_rfl) (by kernel_rfl) ?_ | refine D_pure tabOk rfl ?_ | refine T_seq ?_)
    refine D_re 19 (v' := .bool true) rfl (congrArg Value.bool (decide_eq_true (by omega))) ?_
    repeat (first | refine D_pure tabOk rfl ?_)
    refine D_q (Q_idx1 tabOk rfl rfl rfl rfl rfl rfl rfl (j := j) (by omega) (by omega)) ?_
    refine D_load1 tabOk rfl rfl (v := .int .u64 R2[j]!) (fun w' hw => blkc hw (uA_get (by omega))) ?_
    repeat (first | refine D_i64 tabOk rfl (by omega) ?_ | refine D_pure tabOk rfl ?_)
    refine D_q (Q_idx1 tabOk rfl rfl rfl rfl rfl rfl rfl (j := (j - 1)) (by omega) (by omega)) ?_
    refine D_load1 tabOk rfl rfl (v := .int .u64 R2[(j - 1)]!) (fun w' hw => blkc hw (uA_get (by omega))) ?_
    skip
    refine D_callx rfl Try.call84 (v := .bool false) (fun w' vs hw' h => by obtain ⟨u1, _, rfl, rfl, u2, _, rfl, rfl, rfl⟩ := h; exact less_b hb w') ?_
    repeat (first | refine D_all rfl ?_ | refine D_pure tabOk rfl ?_)
    refine T_cond_f rfl ?_
    repeat (first | refine T_region ?_ | refine S_nil ?_ | refine pthen_normal ?_ | refine inb_normal ?_ | refine inb_hit ?_ | refine pthen_exit ?_ | refine T_exit ?_ | refine S_i64 tabOk rfl (by omega) ?_ | refine S_pure tabOk rfl ?_)
    exact ⟨⟨i + 1, R2⟩, ⟨by dsimp only; omega, hd, hR⟩, by repeat (first | exact Sub.nil | refine Sub.cons rfl ?_), fun w' hw => hw, by dsimp only; omega⟩
  | true =>
    rw [insInner_step h1 hb] at hR2
    repeat (first | refine T_draw (by kernel_rfl) (by kernel_rfl) ?_ | refine D_pure tabOk rfl ?_ | refine T_seq ?_)
    refine D_re 19 (v' := .bool true) rfl (congrArg Value.bool (decide_eq_true (by omega))) ?_
    repeat (first | refine D_pure tabOk rfl ?_)
    refine D_q (Q_idx1 tabOk rfl rfl rfl rfl rfl rfl rfl (j := j) (by omega) (by omega)) ?_
    refine D_load1 tabOk rfl rfl (v := .int .u64 d[j]!) (fun w' hw => blkc hw (uA_get (by omega))) ?_
    repeat (first | refine D_i64 tabOk rfl (by omega) ?_ | refine D_pure tabOk rfl ?_)
    refine D_q (Q_idx1 tabOk rfl rfl rfl rfl rfl rfl rfl (j := (j - 1)) (by omega) (by omega)) ?_
    refine D_load1 tabOk rfl rfl (v := .int .u64 d[(j - 1)]!) (fun w' hw => blkc hw (uA_get (by omega))) ?_
    skip
    refine D_callx rfl Try.call84 (v := .bool true) (fun w' vs hw' h => by obtain ⟨u1, _, rfl, rfl, u2, _, rfl, rfl, rfl⟩ := h; exact less_b hb w') ?_
    repeat (first | refine D_all rfl ?_ | refine D_pure tabOk rfl ?_)
    refine T_cond_t rfl ?_
    repeat (first | refine T_seq ?_ | refine T_block ?_ | refine T_skip ?_ | refine pthen_normal ?_)
    have hs := swp_size d j (j - 1)
    let ol0 : OL := uE g 59 d junk :: rest
    let ol1 : OL := .blk g (.cells ⟨(uA d junk).set j (.int .u64 d[(j - 1)]!)⟩ 59 (0, 0)) true :: rest
    let ol2 : OL := uE g 59 (swp d j (j - 1)) junk :: rest
    let olf : (Nat → Bool) → OL := fun L => match L 17 with
      | true => ol2
      | false => match L 15 with
        | true => ol1
        | false => ol0
    refine T_asThen ?_
    refine T_drawS (by kernel_rfl) (by kernel_rfl) [.slice (some ⟨g, 0, none⟩) n c, .int .i64 (j : Int), .slice (some ⟨g, 0, none⟩) n c, .int .i64 (j : Int), .int .i64 ((j : Int) - 1), .slice (some ⟨g, 0, none⟩) n c, .int .i64 (j : Int), .int .i64 ((j : Int) - 1), .pointer (some ⟨g, 0 + (j - 1), none⟩), .int .u64 d[(j - 1)]!, .slice (some ⟨g, 0, none⟩) n c, .int .i64 (j : Int), .pointer (some ⟨g, 0 + j, none⟩), .int .u64 d[j]!, .pointer (some ⟨g, 0 + j, none⟩), undef, .pointer (some ⟨g, 0 + (j - 1), none⟩), undef] rfl olf rfl ?_ (l' := [(0, .slice (some ⟨g, 0, none⟩) n c), (1, .int .i64 (a : Int)), (2, .int .i64 (b : Int)), (6, .int .i64 (i : Int)), (7, .int .i64 (j : Int))]) (ol' := ol2) (fun L h => by simp only [olf, h 17 (by decide)]) (by repeat (first | exact SubD.nil | refine SubD.cons rfl ?_)) ?_
    · refine ⟨?_, ?_, ?_, ?_, ?_, ?_, ?_, ?_, ?_, ?_, ?_, ?_, ?_, ?_, ?_, ?_, ?_, ?_, trivial⟩
      · exact fun L hc hl hp => OpS.ofD rfl (D_pure tabOk rfl D_last)
      · exact fun L hc hl hp => OpS.ofD rfl (D_pure tabOk rfl D_last)
      · exact fun L hc hl hp => OpS.ofD rfl (D_pure tabOk rfl D_last)
      · exact fun L hc hl hp => OpS.ofD rfl (D_pure tabOk rfl D_last)
      · exact fun L hc hl hp => OpS.ofD rfl (D_i64 tabOk rfl (by omega) D_last)
      · exact fun L hc hl hp => OpS.ofD rfl (D_pure tabOk rfl D_last)
      · exact fun L hc hl hp => OpS.ofD rfl (D_pure tabOk rfl D_last)
      · exact fun L hc hl hp => OpS.ofD rfl (D_i64 tabOk rfl (by omega) D_last)
      · exact fun L hc hl hp => OpS.ofD rfl (D_q (Q_idx1 tabOk rfl rfl rfl rfl rfl rfl rfl (j := (j - 1)) (by omega) (by omega)) D_last)
      · intro L hc hl hp
        have h15 := closed_no hc (j := 15) rfl ⟨9, .data⟩ (by simp) rfl hl
        have h17 := closed_no hc (j := 17) rfl ⟨9, .phase⟩ (by simp) rfl hl
        have e1 : olf L = ol0 := by simp only [olf, h15, h17]
        have e2 : olf (add L 9) = ol0 := by simp [olf, add, h15, h17]
        rw [e1, e2]
        exact OpS.ofD rfl (D_load1 tabOk (v := .int .u64 d[(j - 1)]!) rfl rfl (fun w' hw => blkc hw (uA_get (by omega))) D_last)
      · exact fun L hc hl hp => OpS.ofD rfl (D_pure tabOk rfl D_last)
      · exact fun L hc hl hp => OpS.ofD rfl (D_pure tabOk rfl D_last)
      · exact fun L hc hl hp => OpS.ofD rfl (D_q (Q_idx1 tabOk rfl rfl rfl rfl rfl rfl rfl (j := j) (by omega) (by omega)) D_last)
      · intro L hc hl hp
        have h15 := closed_no hc (j := 15) rfl ⟨13, .phase⟩ (by simp) rfl hl
        have h17 := closed_no hc (j := 17) rfl ⟨13, .data⟩ (by simp) rfl hl
        have e1 : olf L = ol0 := by simp only [olf, h15, h17]
        have e2 : olf (add L 13) = ol0 := by simp [olf, add, h15, h17]
        rw [e1, e2]
        exact OpS.ofD rfl (D_load1 tabOk (v := .int .u64 d[j]!) rfl rfl (fun w' hw => blkc hw (uA_get (by omega))) D_last)
      · exact fun L hc hl hp => OpS.ofD rfl (D_q (Q_idx1 tabOk rfl rfl rfl rfl rfl rfl rfl (j := j) (by omega) (by omega)) D_last)
      · intro L hc hl hp
        have h17 := closed_no hc (j := 17) rfl ⟨15, .chain⟩ (by simp) rfl hl
        have e1 : olf L = ol0 := by simp only [olf, hl, h17]
        have e2 : olf (add L 15) = ol1 := by simp [olf, add, h17]
        rw [e1, e2]
        exact OpS.store tabOk 0 rfl rfl (by intro x hx; rw [List.mem_singleton] at hx; subst hx; rfl) rfl (by rw [Nat.zero_add]; exact setMany_1 (by rw [uA_len]; omega)) rfl
      · exact fun L hc hl hp => OpS.ofD rfl (D_q (Q_idx1 tabOk rfl rfl rfl rfl rfl rfl rfl (j := (j - 1)) (by omega) (by omega)) D_last)
      · intro L hc hl hp
        have h15 : L 15 = true := hp ⟨15, .chain⟩ (by simp) rfl
        have e1 : olf L = ol1 := by simp only [olf, h15, hl]
        have e2 : olf (add L 17) = ol2 := by simp [olf, add]
        rw [e1, e2]
        exact OpS.store tabOk 0 rfl rfl (by intro x hx; rw [List.mem_singleton] at hx; subst hx; rfl) rfl (by rw [Nat.zero_add]; exact (setMany_1 (by rw [List.length_set, uA_len]; omega)).trans (congrArg some (uA_swp (by omega) (by omega)))) rfl
    clear olf ol0 ol1
    dsimp only [ol2]
    clear ol2
    repeat (first | refine T_region ?_ | refine S_nil ?_ | refine pthen_normal ?_ | refine inb_normal ?_ | refine S_i64 tabOk rfl (by omega) ?_ | refine S_pure tabOk rfl ?_)
    exact ⟨⟨j - 1, swp d j (j - 1)⟩, ⟨by dsimp only; omega, by dsimp only; omega, hR2⟩, (by dsimp only; repeat (first | exact Sub.nil | refine Sub.cons rfl ?_ | refine Sub.cons_int rfl (by omega) ?_)), fun w' hw => hw, by dsimp only; omega⟩
theorem sift_stop {hi first root : Nat} {d : Array Int} (h : hi ≤ 2 * root + 1) : siftDown ltI hi first root d = d := by
  unfold siftDown
  rw [dif_pos (by omega)]
def kid (hi first root : Nat) (d : Array Int) : Nat := if 2 * root + 2 < hi ∧ ltI d[first + (2 * root + 1)]! d[first + (2 * root + 2)]! = true then 2 * root + 2 else 2 * root + 1
theorem kid_or (hi first root : Nat) (d : Array Int) : kid hi first root d = 2 * root + 2 ∨ kid hi first root d = 2 * root + 1 := by
  unfold kid
  split
  · exact .inl rfl
  · exact .inr rfl
theorem kid_b {hi first root : Nat} {d : Array Int} (h : 2 * root + 1 < hi) : root < kid hi first root d ∧ kid hi first root d < hi := by
  unfold kid
  split <;> omega
theorem sift_step {hi first root : Nat} {d : Array Int} (h : 2 * root + 1 < hi) : siftDown ltI hi first root d = if ltI d[first + root]! d[first + kid hi first root d]! = true then siftDown ltI hi first (kid hi first root d) (swp d (first + root) (first + kid hi first root d)) else d := by
  conv => lhs; unfold siftDown
  rw [dif_neg (by omega)]
  unfold kid
  by_cases h2 : 2 * root + 2 < hi ∧ ltI d[first + (2 * root + 1)]! d[first + (2 * root + 2)]! = true
  · rw [if_pos (by rw [Bool.and_eq_true, decide_eq_true_eq]; exact h2), if_pos h2]
    cases h3 : ltI d[first + root]! d[first + (2 * root + 2)]! with
    | true => simp only [Bool.not_true, Bool.false_eq_true, if_false, if_true]; rw [dif_pos h2.1]
    | false => simp
  · rw [if_neg (by rw [Bool.and_eq_true, decide_eq_true_eq]; exact h2), if_neg h2]
    cases h3 : ltI d[first + root]! d[first + (2 * root + 1)]! with
    | true => simp
    | false => simp
set_option maxHeartbeats 4000000 in
theorem sift_ok {w0 w : World} {g c n : Nat} {d0 : Array Int} {junk : List Value} {rest : OL} (lo hi first : Nat) (h : Hp w0 w (uE g 59 d0 junk :: rest)) (hn : d0.size = n) (hb : first + hi ≤ n) (hl : lo ≤ n) (hm : n ≤ 1152921504606846976) : Calls Try.prog 89 #[.slice (some ⟨g, 0, none⟩) n c, .int .i64 (lo : Int), .int .i64 (hi : Int), .int .i64 (first : Int)] w fun e w' => e = .returned (.tuple #[]) ∧ Hp w0 w' (uE g 59 (siftDown ltI hi first lo d0) junk :: rest) ∧ (siftDown ltI hi first lo d0).size = n := by
  refine enterW4 Try.func89 rfl rfl h ?_
  obtain ⟨R, hR⟩ : ∃ R, R = siftDown ltI hi first lo d0 := ⟨_, rfl⟩
  rw [← hR]
  repeat (first | refine T_seq ?_ | refine T_region ?_ | refine T_block ?_ | refine S_nil ?_ | refine S_pure tabOk rfl ?_)
  refine T_loop (ι := SrI) (fun i => [(0, .slice (some ⟨g, 0, none⟩) n c), (2, .int .i64 (hi : Int)), (3, .int .i64 (first : Int)), (8, .int .i64 (i.i : Int))]) (fun i => uE g 59 i.d junk :: rest) (fun i => i.i ≤ n ∧ i.d.size = n ∧ R = siftDown ltI hi first i.i i.d) (fun i => n - i.i) ⟨lo, d0⟩ ⟨hl, hn, hR⟩ (by repeat (first | exact Sub.nil | refine Sub.cons rfl ?_)) (fun w' hw => hw) ?_
  rintro ⟨root, d⟩ ⟨hr, hd, hR⟩
  dsimp only at hr hd hR ⊢
  repeat (first | refine T_seq ?_ | refine T_region ?_ | refine T_block ?_ | refine S_nil ?_ | refine S_i64 tabOk rfl (by omega) ?_ | refine S_pure tabOk rfl ?_)
  refine T_cond_dec rfl (fun hc => ?_) (fun hc => ?_)
  · rw [sift_stop (by omega)] at hR
    subst hR
    repeat (first | refine pthen_exit ?_ | refine T_exit ?_)
    refine inb_miss rfl ?_
    repeat (first | refine inb_hit ?_ | refine pthen_exit ?_)
    exact ret0n rfl (fun w' hw => ⟨rfl, hw, hd⟩)
  have hk := kid_b (first := first) (d := d) (by omega : 2 * root + 1 < hi)
  rw [sift_step (by omega)] at hR
  repeat (first | refine T_seq ?_ | refine T_skip ?_ | refine pthen_normal ?_)
  refine T_cut (ι := Unit) (fun _ => True) (fun _ => [(0, .slice (some ⟨g, 0, none⟩) n c), (2, .int .i64 (hi : Int)), (3, .int .i64 (first : Int)), (8, .int .i64 (root : Int)), (9, .int .i64 (2 * (root : Int) + 1 : Int)), (36, .bool (decide (kid hi first root d = 2 * root + 2)))]) (fun _ => uE g 59 d junk :: rest) ?_ ?_
  · by_cases h1 : 2 * root + 2 < hi
    rotate_left
    · repeat (first | refine T_draw (by kernel_rfl) (by kernel_rfl) ?_ | refine D_i64 tabOk rfl (by omega) ?_ | refine D_pure tabOk rfl ?_)
      refine D_re 21 (v' := .bool false) rfl (congrArg Value.bool (decide_eq_false (by omega))) ?_
      repeat (first | refine D_all rfl ?_ | refine D_pure tabOk rfl ?_ | refine D_pass rfl rfl rfl ?_)
      refine ⟨(), trivial, ?_, fun w' hw => hw⟩
      rw [show decide (kid hi first root d = 2 * root + 2) = false from decide_eq_false (by unfold kid; rw [if_neg (fun h => h1 h.1)]; omega)]
      repeat (first | exact Sub.nil | refine Sub.cons rfl ?_)
    cases hb : ltI d[first + (2 * root + 1)]! d[first + (2 * root + 2)]! with
    | false =>
      repeat (first | refine T_draw (by kernel_rfl) (by kernel_rfl) ?_ | refine D_i64 tabOk rfl (by omega) ?_ | refine D_pure tabOk rfl ?_)
      refine D_re 21 (v' := .bool true) rfl (congrArg Value.bool (decide_eq_true (by omega))) ?_
      repeat (first | refine D_i64 tabOk rfl (by omega) ?_ | refine D_pure tabOk rfl ?_)
      refine D_q (Q_idx1 tabOk rfl rfl rfl rfl rfl rfl rfl (j := (first + (2 * root + 1))) (by omega) (by omega)) ?_
      refine D_load1 tabOk rfl rfl (v := .int .u64 d[(first + (2 * root + 1))]!) (fun w' hw => blkc hw (uA_get (by omega))) ?_
      repeat (first | refine D_i64 tabOk rfl (by omega) ?_ | refine D_pure tabOk rfl ?_)
      refine D_q (Q_idx1 tabOk rfl rfl rfl rfl rfl rfl rfl (j := (first + (2 * root + 2))) (by omega) (by omega)) ?_
      refine D_load1 tabOk rfl rfl (v := .int .u64 d[(first + (2 * root + 2))]!) (fun w' hw => blkc hw (uA_get (by omega))) ?_
      skip
      refine D_callx rfl Try.call84 (v := .bool false) (fun w' vs hw' h => by obtain ⟨u1, _, rfl, rfl, u2, _, rfl, rfl, rfl⟩ := h; exact less_b hb w') ?_
      repeat (first | refine D_all rfl ?_ | refine D_pure tabOk rfl ?_)
      refine ⟨(), trivial, ?_, fun w' hw => hw⟩
      rw [show decide (kid hi first root d = 2 * root + 2) = false from decide_eq_false (by unfold kid; rw [hb, if_neg (fun h => by cases h.2)]; omega)]
      repeat (first | exact Sub.nil | refine Sub.cons rfl ?_)
    | true =>
      repeat (first | refine T_draw (by kernel_rfl) (by kernel_rfl) ?_ | refine D_i64 tabOk rfl (by omega) ?_ | refine D_pure tabOk rfl ?_)
      refine D_re 21 (v' := .bool true) rfl (congrArg Value.bool (decide_eq_true (by omega))) ?_
      repeat (first | refine D_i64 tabOk rfl (by omega) ?_ | refine D_pure tabOk rfl ?_)
      refine D_q (Q_idx1 tabOk rfl rfl rfl rfl rfl rfl rfl (j := (first + (2 * root + 1))) (by omega) (by omega)) ?_
      refine D_load1 tabOk rfl rfl (v := .int .u64 d[(first + (2 * root + 1))]!) (fun w' hw => blkc hw (uA_get (by omega))) ?_
      repeat (first | refine D_i64 tabOk rfl (by omega) ?_ | refine D_pure tabOk rfl ?_)
      refine D_q (Q_idx1 tabOk rfl rfl rfl rfl rfl rfl rfl (j := (first + (2 * root + 2))) (by omega) (by omega)) ?_
      refine D_load1 tabOk rfl rfl (v := .int .u64 d[(first + (2 * root + 2))]!) (fun w' hw => blkc hw (uA_get (by omega))) ?_
      skip
      refine D_callx rfl Try.call84 (v := .bool true) (fun w' vs hw' h => by obtain ⟨u1, _, rfl, rfl, u2, _, rfl, rfl, rfl⟩ := h; exact less_b hb w') ?_
      repeat (first | refine D_all rfl ?_ | refine D_pure tabOk rfl ?_)
      refine ⟨(), trivial, ?_, fun w' hw => hw⟩
      rw [show decide (kid hi first root d = 2 * root + 2) = true from decide_eq_true (by unfold kid; rw [hb, if_pos ⟨h1, rfl⟩])]
      repeat (first | exact Sub.nil | refine Sub.cons rfl ?_)
  rintro _ _
  refine T_cut (ι := Unit) (fun _ => True) (fun _ => [(0, .slice (some ⟨g, 0, none⟩) n c), (2, .int .i64 (hi : Int)), (3, .int .i64 (first : Int)), (8, .int .i64 (root : Int)), (9, .int .i64 (kid hi first root d : Int))]) (fun _ => uE g 59 d junk :: rest) ?_ ?_
  · refine T_cond_dec rfl (fun h1 => ?_) (fun h1 => ?_)
    · rw [h1]
      repeat (first | refine T_region ?_ | refine S_nil ?_ | refine S_i64 tabOk rfl (by omega) ?_ | refine S_pure tabOk rfl ?_)
      exact ⟨(), trivial, (by repeat (first | exact Sub.nil | refine Sub.cons rfl ?_)), fun w' hw => hw⟩
    · have h2 : kid hi first root d = 2 * root + 1 := (kid_or ..).resolve_left h1
      rw [h2]
      repeat (first | refine pthen_normal ?_ | refine T_skip ?_)
      exact ⟨(), trivial, (by repeat (first | exact Sub.nil | refine Sub.cons rfl ?_)), fun w' hw => hw⟩
  rintro _ _
  generalize kid hi first root d = k at hk hR ⊢
  cases hb : ltI d[first + root]! d[first + k]! with
  | false =>
    rw [hb, if_neg (by decide)] at hR
    subst hR
    repeat (first | refine T_draw (by kernel_rfl) (by kernel_rfl) ?_ | refine D_i64 tabOk rfl (by omega) ?_ | refine D_pure tabOk rfl ?_ | refine T_seq ?_)
    refine D_q (Q_idx1 tabOk rfl rfl rfl rfl rfl rfl rfl (j := (first + root)) (by omega) (by omega)) ?_
    refine D_load1 tabOk rfl rfl (v := .int .u64 R[(first + root)]!) (fun w' hw => blkc hw (uA_get (by omega))) ?_
    repeat (first | refine D_i64 tabOk rfl (by omega) ?_ | refine D_pure tabOk rfl ?_)
    refine D_q (Q_idx1 tabOk rfl rfl rfl rfl rfl rfl rfl (j := (first + k)) (by omega) (by omega)) ?_
    refine D_load1 tabOk rfl rfl (v := .int .u64 R[(first + k)]!) (fun w' hw => blkc hw (uA_get (by omega))) ?_
    skip
    refine D_callx rfl Try.call84 (v := .bool false) (fun w' vs hw' h => by obtain ⟨u1, _, rfl, rfl, u2, _, rfl, rfl, rfl⟩ := h; exact less_b hb w') ?_
    repeat (first | refine D_all rfl ?_ | refine D_pure tabOk rfl ?_)
    refine T_cond_t rfl ?_
    repeat (first | refine inb_ret ?_ | refine pthen_ret ?_ | refine T_ret ?_)
    exact ret0 rfl (fun w' hw => ⟨rfl, hw, hd⟩)
  | true =>
    rw [hb, if_pos rfl] at hR
    repeat (first | refine T_draw (by kernel_rfl) (by kernel_rfl) ?_ | refine D_i64 tabOk rfl (by omega) ?_ | refine D_pure tabOk rfl ?_ | refine T_seq ?_)
    refine D_q (Q_idx1 tabOk rfl rfl rfl rfl rfl rfl rfl (j := (first + root)) (by omega) (by omega)) ?_
    refine D_load1 tabOk rfl rfl (v := .int .u64 d[(first + root)]!) (fun w' hw => blkc hw (uA_get (by omega))) ?_
    repeat (first | refine D_i64 tabOk rfl (by omega) ?_ | refine D_pure tabOk rfl ?_)
    refine D_q (Q_idx1 tabOk rfl rfl rfl rfl rfl rfl rfl (j := (first + k)) (by omega) (by omega)) ?_
    refine D_load1 tabOk rfl rfl (v := .int .u64 d[(first + k)]!) (fun w' hw => blkc hw (uA_get (by omega))) ?_
    skip
    refine D_callx rfl Try.call84 (v := .bool true) (fun w' vs hw' h => by obtain ⟨u1, _, rfl, rfl, u2, _, rfl, rfl, rfl⟩ := h; exact less_b hb w') ?_
    repeat (first | refine D_all rfl ?_ | refine D_pure tabOk rfl ?_)
    refine T_cond_f rfl ?_
    repeat (first | refine T_seq ?_ | refine T_skip ?_ | refine pthen_normal ?_)
    have hs := swp_size d (first + root) (first + k)
    let ol0 : OL := uE g 59 d junk :: rest
    let ol1 : OL := .blk g (.cells ⟨(uA d junk).set (first + root) (.int .u64 d[(first + k)]!)⟩ 59 (0, 0)) true :: rest
    let ol2 : OL := uE g 59 (swp d (first + root) (first + k)) junk :: rest
    let olf : (Nat → Bool) → OL := fun L => match L 23 with
      | true => ol2
      | false => match L 21 with
        | true => ol1
        | false => ol0
    refine T_drawS (by kernel_rfl) (by kernel_rfl) [.slice (some ⟨g, 0, none⟩) n c, .int .i64 (first : Int), .int .i64 (root : Int), .int .i64 ((first : Int) + (root : Int)), .slice (some ⟨g, 0, none⟩) n c, .int .i64 (first : Int), .int .i64 (k : Int), .int .i64 ((first : Int) + (k : Int)), .slice (some ⟨g, 0, none⟩) n c, .int .i64 (first : Int), .int .i64 (k : Int), .int .i64 ((first : Int) + (k : Int)), .pointer (some ⟨g, 0 + (first + k), none⟩), .int .u64 d[(first + k)]!, .slice (some ⟨g, 0, none⟩) n c, .int .i64 (first : Int), .int .i64 (root : Int), .int .i64 ((first : Int) + (root : Int)), .pointer (some ⟨g, 0 + (first + root), none⟩), .int .u64 d[(first + root)]!, .pointer (some ⟨g, 0 + (first + root), none⟩), undef, .pointer (some ⟨g, 0 + (first + k), none⟩), undef] rfl olf rfl ?_ (l' := [(0, .slice (some ⟨g, 0, none⟩) n c), (2, .int .i64 (hi : Int)), (3, .int .i64 (first : Int)), (8, .int .i64 (root : Int)), (9, .int .i64 (k : Int))]) (ol' := ol2) (fun L h => by simp only [olf, h 23 (by decide)]) (by repeat (first | exact SubD.nil | refine SubD.cons rfl ?_)) ?_
    · refine ⟨?_, ?_, ?_, ?_, ?_, ?_, ?_, ?_, ?_, ?_, ?_, ?_, ?_, ?_, ?_, ?_, ?_, ?_, ?_, ?_, ?_, ?_, ?_, ?_, trivial⟩
      · exact fun L hc hl hp => OpS.ofD rfl (D_pure tabOk rfl D_last)
      · exact fun L hc hl hp => OpS.ofD rfl (D_pure tabOk rfl D_last)
      · exact fun L hc hl hp => OpS.ofD rfl (D_pure tabOk rfl D_last)
      · exact fun L hc hl hp => OpS.ofD rfl (D_i64 tabOk rfl (by omega) D_last)
      · exact fun L hc hl hp => OpS.ofD rfl (D_pure tabOk rfl D_last)
      · exact fun L hc hl hp => OpS.ofD rfl (D_pure tabOk rfl D_last)
      · exact fun L hc hl hp => OpS.ofD rfl (D_pure tabOk rfl D_last)
      · exact fun L hc hl hp => OpS.ofD rfl (D_i64 tabOk rfl (by omega) D_last)
      · exact fun L hc hl hp => OpS.ofD rfl (D_pure tabOk rfl D_last)
      · exact fun L hc hl hp => OpS.ofD rfl (D_pure tabOk rfl D_last)
      · exact fun L hc hl hp => OpS.ofD rfl (D_pure tabOk rfl D_last)
      · exact fun L hc hl hp => OpS.ofD rfl (D_i64 tabOk rfl (by omega) D_last)
      · exact fun L hc hl hp => OpS.ofD rfl (D_q (Q_idx1 tabOk rfl rfl rfl rfl rfl rfl rfl (j := (first + k)) (by omega) (by omega)) D_last)
      · intro L hc hl hp
        have h21 := closed_no hc (j := 21) rfl ⟨13, .data⟩ (by simp) rfl hl
        have h23 := closed_no hc (j := 23) rfl ⟨13, .phase⟩ (by simp) rfl hl
        have e1 : olf L = ol0 := by simp only [olf, h21, h23]
        have e2 : olf (add L 13) = ol0 := by simp [olf, add, h21, h23]
        rw [e1, e2]
        exact OpS.ofD rfl (D_load1 tabOk (v := .int .u64 d[(first + k)]!) rfl rfl (fun w' hw => blkc hw (uA_get (by omega))) D_last)
      · exact fun L hc hl hp => OpS.ofD rfl (D_pure tabOk rfl D_last)
      · exact fun L hc hl hp => OpS.ofD rfl (D_pure tabOk rfl D_last)
      · exact fun L hc hl hp => OpS.ofD rfl (D_pure tabOk rfl D_last)
      · exact fun L hc hl hp => OpS.ofD rfl (D_i64 tabOk rfl (by omega) D_last)
      · exact fun L hc hl hp => OpS.ofD rfl (D_q (Q_idx1 tabOk rfl rfl rfl rfl rfl rfl rfl (j := (first + root)) (by omega) (by omega)) D_last)
      · intro L hc hl hp
        have h21 := closed_no hc (j := 21) rfl ⟨19, .phase⟩ (by simp) rfl hl
        have h23 := closed_no hc (j := 23) rfl ⟨19, .data⟩ (by simp) rfl hl
        have e1 : olf L = ol0 := by simp only [olf, h21, h23]
        have e2 : olf (add L 19) = ol0 := by simp [olf, add, h21, h23]
        rw [e1, e2]
        exact OpS.ofD rfl (D_load1 tabOk (v := .int .u64 d[(first + root)]!) rfl rfl (fun w' hw => blkc hw (uA_get (by omega))) D_last)
      · exact fun L hc hl hp => OpS.ofD rfl (D_q (Q_idx1 tabOk rfl rfl rfl rfl rfl rfl rfl (j := (first + root)) (by omega) (by omega)) D_last)
      · intro L hc hl hp
        have h23 := closed_no hc (j := 23) rfl ⟨21, .chain⟩ (by simp) rfl hl
        have e1 : olf L = ol0 := by simp only [olf, hl, h23]
        have e2 : olf (add L 21) = ol1 := by simp [olf, add, h23]
        rw [e1, e2]
        exact OpS.store tabOk 0 rfl rfl (by intro x hx; rw [List.mem_singleton] at hx; subst hx; rfl) rfl (by rw [Nat.zero_add]; exact setMany_1 (by rw [uA_len]; omega)) rfl
      · exact fun L hc hl hp => OpS.ofD rfl (D_q (Q_idx1 tabOk rfl rfl rfl rfl rfl rfl rfl (j := (first + k)) (by omega) (by omega)) D_last)
      · intro L hc hl hp
        have h21 : L 21 = true := hp ⟨21, .chain⟩ (by simp) rfl
        have e1 : olf L = ol1 := by simp only [olf, h21, hl]
        have e2 : olf (add L 23) = ol2 := by simp [olf, add]
        rw [e1, e2]
        exact OpS.store tabOk 0 rfl rfl (by intro x hx; rw [List.mem_singleton] at hx; subst hx; rfl) rfl (by rw [Nat.zero_add]; exact (setMany_1 (by rw [List.length_set, uA_len]; omega)).trans (congrArg some (uA_swp (by omega) (by omega)))) rfl
    clear olf ol0 ol1
    dsimp only [ol2]
    clear ol2
    repeat (first | refine S_nil ?_ | refine pthen_normal ?_ | refine inb_normal ?_ | refine S_pure tabOk rfl ?_ | refine T_region_any ?_)
    exact ⟨⟨k, swp d (first + root) (first + k)⟩, ⟨by dsimp only; omega, by dsimp only; omega, hR⟩, (by dsimp only; repeat (first | exact Sub.nil | refine Sub.cons rfl ?_)), fun w' hw => hw, by dsimp only; omega⟩
set_option maxHeartbeats 4000000 in
theorem hsort_ok {w0 w : World} {g c n : Nat} {d0 : Array Int} {junk : List Value} {rest : OL} (a b : Nat) (h : Hp w0 w (uE g 59 d0 junk :: rest)) (hn : d0.size = n) (hab : a < b) (hb : b ≤ n) (hm : n ≤ 1152921504606846976) : Calls Try.prog 79 #[.slice (some ⟨g, 0, none⟩) n c, .int .i64 (a : Int), .int .i64 (b : Int)] w fun e w' => e = .returned (.tuple #[]) ∧ Hp w0 w' (uE g 59 (heapSort ltI d0 a b) junk :: rest) ∧ (heapSort ltI d0 a b).size = n := by
  refine enterW3 Try.func79 rfl rfl h ?_
  obtain ⟨R, hR⟩ : ∃ R, R = heapSort ltI d0 a b := ⟨_, rfl⟩
  rw [← hR]
  unfold heapSort at hR
  obtain ⟨m, hmm⟩ : ∃ m, m = b - a := ⟨_, rfl⟩
  rw [← hmm] at hR
  obtain ⟨d1, hd1⟩ : ∃ d, d = heapBuild ltI m a ((m - 1) / 2 + 1) d0 := ⟨_, rfl⟩
  rw [← hd1] at hR
  repeat (first | refine T_seq ?_ | refine T_region ?_ | refine S_nil ?_ | refine S_i64 tabOk rfl (by omega) ?_ | refine S_pure tabOk rfl ?_)
  refine S_re 16 (v' := .int .i64 ((m - 1 : Nat) : Int)) rfl (congrArg (Value.int .i64) (by omega)) ?_
  refine S_q (Q_quo0 rfl rfl rfl (by omega) (by omega) (fun e h1 h2 => IntWalk.i64_in _ (by omega))) ?_
  repeat (first | refine T_block ?_ | refine S_nil ?_ | refine S_pure tabOk rfl ?_)
  refine T_loop (ι := SrI) (fun i => [(0, .slice (some ⟨g, 0, none⟩) n c), (6, .int .i64 (a : Int)), (7, .int .i64 0), (8, .int .i64 (m : Int)), (9, .int .i64 ((i.i : Int) - 1))]) (fun i => uE g 59 i.d junk :: rest) (fun i => i.i ≤ m ∧ i.d.size = n ∧ d1 = heapBuild ltI m a i.i i.d) (fun i => i.i) ⟨(m - 1) / 2 + 1, d0⟩ ⟨by dsimp only; omega, hn, hd1⟩ (by dsimp only; repeat (first | exact Sub.nil | refine Sub.cons rfl ?_ | refine Sub.cons_int rfl (by omega) ?_)) (fun w' hw => hw) ?_
  rintro ⟨k, d⟩ ⟨hk, hd, hd1⟩
  dsimp only at hk hd hd1 ⊢
  cases k with
  | succ k =>
    unfold heapBuild at hd1
    repeat (first | refine T_seq ?_ | refine T_region ?_ | refine S_nil ?_ | refine S_pure tabOk rfl ?_)
    refine T_cond_dec rfl (fun _ => ?_) (fun h => absurd (by omega) h)
    repeat (first | refine T_seq ?_ | refine T_block ?_ | refine pthen_normal ?_ | refine T_skip ?_ | refine S_pure tabOk rfl ?_ | refine T_region_any ?_)
    refine S_re 23 (v' := .int .i64 (k : Int)) rfl (congrArg (Value.int .i64) (by omega)) ?_
    refine S_call rfl Try.call89 (fun w1 h1 => (sift_ok k m a h1 hd (by omega) (by omega) hm).mono fun e w' ⟨e1, h2, h3⟩ => ⟨_, _, e1, h2, ?_⟩)
    repeat (first | refine T_region ?_ | refine S_nil ?_ | refine pthen_normal ?_ | refine inb_normal ?_ | refine S_i64 tabOk rfl (by omega) ?_ | refine S_pure tabOk rfl ?_)
    exact ⟨⟨k, siftDown ltI m a k d⟩, ⟨by dsimp only; omega, h3, hd1⟩, (by dsimp only; repeat (first | exact Sub.nil | refine Sub.cons rfl ?_ | refine Sub.cons_int rfl (by omega) ?_)), fun w' hw => hw, by dsimp only; omega⟩
  | zero =>
    unfold heapBuild at hd1
    subst hd1
    repeat (first | refine T_seq ?_ | refine T_region ?_ | refine S_nil ?_ | refine S_pure tabOk rfl ?_)
    refine T_cond_dec rfl (fun h => absurd h (by omega)) (fun _ => ?_)
    repeat (first | refine T_seq ?_ | refine T_region ?_ | refine T_block ?_ | refine S_nil ?_ | refine pthen_normal ?_ | refine inb_hit ?_ | refine pthen_exit ?_ | refine T_exit ?_ | refine S_i64 tabOk rfl (by omega) ?_ | refine S_pure tabOk rfl ?_)
    refine T_loop (ι := SrI) (fun i => [(0, .slice (some ⟨g, 0, none⟩) n c), (6, .int .i64 (a : Int)), (7, .int .i64 0), (10, .int .i64 ((i.i : Int) - 1))]) (fun i => uE g 59 i.d junk :: rest) (fun i => i.i ≤ m ∧ i.d.size = n ∧ R = heapPop ltI a i.i i.d) (fun i => i.i) ⟨m, d1⟩ ⟨Nat.le_refl _, hd, hR⟩ (by dsimp only; repeat (first | exact Sub.nil | refine Sub.cons rfl ?_)) (fun w' hw => hw) ?_
    rintro ⟨k, d⟩ ⟨hk, hd, hR⟩
    dsimp only at hk hd hR ⊢
    cases k with
    | zero =>
      unfold heapPop at hR
      subst hR
      repeat (first | refine T_seq ?_ | refine T_region ?_ | refine S_nil ?_ | refine S_pure tabOk rfl ?_)
      refine T_cond_dec rfl (fun h => absurd h (by omega)) (fun _ => ?_)
      repeat (first | refine inb_hit ?_ | refine pthen_exit ?_ | refine T_exit ?_)
      exact ret0n rfl (fun w' hw => ⟨rfl, hw, hd⟩)
    | succ k =>
      unfold heapPop at hR
      repeat (first | refine T_seq ?_ | refine T_region ?_ | refine S_nil ?_ | refine S_pure tabOk rfl ?_)
      refine T_cond_dec rfl (fun _ => ?_) (fun h => absurd (by omega) h)
      repeat (first | refine T_seq ?_ | refine T_block ?_ | refine T_skip ?_ | refine pthen_normal ?_)
      have hs := swp_size d a (a + k)
      let ol0 : OL := uE g 59 d junk :: rest
      let ol1 : OL := .blk g (.cells ⟨(uA d junk).set a (.int .u64 d[(a + k)]!)⟩ 59 (0, 0)) true :: rest
      let ol2 : OL := uE g 59 (swp d a (a + k)) junk :: rest
      let olf : (Nat → Bool) → OL := fun L => match L 19 with
        | true => ol2
        | false => match L 17 with
          | true => ol1
          | false => ol0
      refine T_drawS (by kernel_rfl) (by kernel_rfl) [.slice (some ⟨g, 0, none⟩) n c, .int .i64 (a : Int), .slice (some ⟨g, 0, none⟩) n c, .int .i64 (a : Int), .int .i64 (((k + 1 : Nat) : Int) - 1), .int .i64 ((a : Int) + (((k + 1 : Nat) : Int) - 1)), .slice (some ⟨g, 0, none⟩) n c, .int .i64 (a : Int), .int .i64 (((k + 1 : Nat) : Int) - 1), .int .i64 ((a : Int) + (((k + 1 : Nat) : Int) - 1)), .pointer (some ⟨g, 0 + (a + k), none⟩), .int .u64 d[(a + k)]!, .slice (some ⟨g, 0, none⟩) n c, .int .i64 (a : Int), .pointer (some ⟨g, 0 + a, none⟩), .int .u64 d[a]!, .pointer (some ⟨g, 0 + a, none⟩), undef, .pointer (some ⟨g, 0 + (a + k), none⟩), undef] rfl olf rfl ?_ (l' := [(0, .slice (some ⟨g, 0, none⟩) n c), (6, .int .i64 (a : Int)), (7, .int .i64 0), (10, .int .i64 (((k + 1 : Nat) : Int) - 1))]) (ol' := ol2) (fun L h => by simp only [olf, h 19 (by decide)]) (by repeat (first | exact SubD.nil | refine SubD.cons rfl ?_)) ?_
      · refine ⟨?_, ?_, ?_, ?_, ?_, ?_, ?_, ?_, ?_, ?_, ?_, ?_, ?_, ?_, ?_, ?_, ?_, ?_, ?_, ?_, trivial⟩
        · exact fun L hc hl hp => OpS.ofD rfl (D_pure tabOk rfl D_last)
        · exact fun L hc hl hp => OpS.ofD rfl (D_pure tabOk rfl D_last)
        · exact fun L hc hl hp => OpS.ofD rfl (D_pure tabOk rfl D_last)
        · exact fun L hc hl hp => OpS.ofD rfl (D_pure tabOk rfl D_last)
        · exact fun L hc hl hp => OpS.ofD rfl (D_pure tabOk rfl D_last)
        · exact fun L hc hl hp => OpS.ofD rfl (D_i64 tabOk rfl (by omega) D_last)
        · exact fun L hc hl hp => OpS.ofD rfl (D_pure tabOk rfl D_last)
        · exact fun L hc hl hp => OpS.ofD rfl (D_pure tabOk rfl D_last)
        · exact fun L hc hl hp => OpS.ofD rfl (D_pure tabOk rfl D_last)
        · exact fun L hc hl hp => OpS.ofD rfl (D_i64 tabOk rfl (by omega) D_last)
        · exact fun L hc hl hp => OpS.ofD rfl (D_q (Q_idx1 tabOk rfl rfl rfl rfl rfl rfl rfl (j := (a + k)) (by omega) (by omega)) D_last)
        · intro L hc hl hp
          have h17 := closed_no hc (j := 17) rfl ⟨11, .data⟩ (by simp) rfl hl
          have h19 := closed_no hc (j := 19) rfl ⟨11, .phase⟩ (by simp) rfl hl
          have e1 : olf L = ol0 := by simp only [olf, h17, h19]
          have e2 : olf (add L 11) = ol0 := by simp [olf, add, h17, h19]
          rw [e1, e2]
          exact OpS.ofD rfl (D_load1 tabOk (v := .int .u64 d[(a + k)]!) rfl rfl (fun w' hw => blkc hw (uA_get (by omega))) D_last)
        · exact fun L hc hl hp => OpS.ofD rfl (D_pure tabOk rfl D_last)
        · exact fun L hc hl hp => OpS.ofD rfl (D_pure tabOk rfl D_last)
        · exact fun L hc hl hp => OpS.ofD rfl (D_q (Q_idx1 tabOk rfl rfl rfl rfl rfl rfl rfl (j := a) (by omega) (by omega)) D_last)
        · intro L hc hl hp
          have h17 := closed_no hc (j := 17) rfl ⟨15, .phase⟩ (by simp) rfl hl
          have h19 := closed_no hc (j := 19) rfl ⟨15, .data⟩ (by simp) rfl hl
          have e1 : olf L = ol0 := by simp only [olf, h17, h19]
          have e2 : olf (add L 15) = ol0 := by simp [olf, add, h17, h19]
          rw [e1, e2]
          exact OpS.ofD rfl (D_load1 tabOk (v := .int .u64 d[a]!) rfl rfl (fun w' hw => blkc hw (uA_get (by omega))) D_last)
        · exact fun L hc hl hp => OpS.ofD rfl (D_q (Q_idx1 tabOk rfl rfl rfl rfl rfl rfl rfl (j := a) (by omega) (by omega)) D_last)
        · intro L hc hl hp
          have h19 := closed_no hc (j := 19) rfl ⟨17, .chain⟩ (by simp) rfl hl
          have e1 : olf L = ol0 := by simp only [olf, hl, h19]
          have e2 : olf (add L 17) = ol1 := by simp [olf, add, h19]
          rw [e1, e2]
          exact OpS.store tabOk 0 rfl rfl (by intro x hx; rw [List.mem_singleton] at hx; subst hx; rfl) rfl (by rw [Nat.zero_add]; exact setMany_1 (by rw [uA_len]; omega)) rfl
        · exact fun L hc hl hp => OpS.ofD rfl (D_q (Q_idx1 tabOk rfl rfl rfl rfl rfl rfl rfl (j := (a + k)) (by omega) (by omega)) D_last)
        · intro L hc hl hp
          have h17 : L 17 = true := hp ⟨17, .chain⟩ (by simp) rfl
          have e1 : olf L = ol1 := by simp only [olf, h17, hl]
          have e2 : olf (add L 19) = ol2 := by simp [olf, add]
          rw [e1, e2]
          exact OpS.store tabOk 0 rfl rfl (by intro x hx; rw [List.mem_singleton] at hx; subst hx; rfl) rfl (by rw [Nat.zero_add]; exact (setMany_1 (by rw [List.length_set, uA_len]; omega)).trans (congrArg some (uA_swp (by omega) (by omega)))) rfl
      clear olf ol0 ol1
      dsimp only [ol2]
      clear ol2
      repeat (first | refine S_pure tabOk rfl ?_ | refine T_region_any ?_)
      refine S_re 53 (v' := .int .i64 (k : Int)) rfl (congrArg (Value.int .i64) (by omega)) ?_
      refine S_call rfl Try.call89 (fun w1 h1 => (sift_ok 0 k a h1 (by omega) (by omega) (by omega) hm).mono fun e w' ⟨e1, h2, h3⟩ => ⟨_, _, e1, h2, ?_⟩)
      repeat (first | refine T_region ?_ | refine S_nil ?_ | refine pthen_normal ?_ | refine inb_normal ?_ | refine S_i64 tabOk rfl (by omega) ?_ | refine S_pure tabOk rfl ?_)
      exact ⟨⟨k, siftDown ltI k a 0 (swp d a (a + k))⟩, ⟨by dsimp only; omega, h3, hR⟩, (by dsimp only; repeat (first | exact Sub.nil | refine Sub.cons rfl ?_ | refine Sub.cons_int rfl (by omega) ?_)), fun w' hw => hw, by dsimp only; omega⟩
structure SrJ where
  i : Nat
  j : Nat
  d : Array Int
set_option maxHeartbeats 4000000 in
theorem rev_ok {w0 w : World} {g c n : Nat} {d0 : Array Int} {junk : List Value} {rest : OL} (a b : Nat) (h : Hp w0 w (uE g 59 d0 junk :: rest)) (hn : d0.size = n) (hab : a < b) (hb : b ≤ n) (hm : n ≤ 1152921504606846976) : Calls Try.prog 82 #[.slice (some ⟨g, 0, none⟩) n c, .int .i64 (a : Int), .int .i64 (b : Int)] w fun e w' => e = .returned (.tuple #[]) ∧ Hp w0 w' (uE g 59 (reverseRange d0 a b) junk :: rest) ∧ (reverseRange d0 a b).size = n := by
  refine enterW3 Try.func82 rfl rfl h ?_
  obtain ⟨R, hR⟩ : ∃ R, R = reverseRange d0 a b := ⟨_, rfl⟩
  rw [← hR]
  unfold reverseRange at hR
  repeat (first | refine T_seq ?_ | refine T_region ?_ | refine T_block ?_ | refine S_nil ?_ | refine S_i64 tabOk rfl (by omega) ?_ | refine S_pure tabOk rfl ?_)
  refine T_loop (ι := SrJ) (fun i => [(0, .slice (some ⟨g, 0, none⟩) n c), (6, .int .i64 (i.i : Int)), (7, .int .i64 (i.j : Int))]) (fun i => uE g 59 i.d junk :: rest) (fun i => i.j < n ∧ i.d.size = n ∧ R = reverseLoop i.i i.j i.d) (fun i => i.j - i.i) ⟨a, b - 1, d0⟩ ⟨by dsimp only; omega, hn, hR⟩ (by dsimp only; repeat (first | exact Sub.nil | refine Sub.cons rfl ?_ | refine Sub.cons_int rfl (by omega) ?_)) (fun w' hw => hw) ?_
  rintro ⟨i, j, d⟩ ⟨hj, hd, hR⟩
  dsimp only at hj hd hR ⊢
  unfold reverseLoop at hR
  repeat (first | refine T_seq ?_ | refine T_region ?_ | refine S_nil ?_ | refine S_pure tabOk rfl ?_)
  refine T_cond_dec rfl (fun h => ?_) (fun h => ?_)
  rotate_left
  · rw [if_neg (by omega)] at hR
    subst hR
    repeat (first | refine inb_hit ?_ | refine pthen_exit ?_ | refine T_exit ?_)
    exact ret0n rfl (fun w' hw => ⟨rfl, hw, hd⟩)
  rw [if_pos (by omega)] at hR
  repeat (first | refine T_seq ?_ | refine T_block ?_ | refine T_skip ?_ | refine pthen_normal ?_)
  have hs := swp_size d i j
  let ol0 : OL := uE g 59 d junk :: rest
  let ol1 : OL := .blk g (.cells ⟨(uA d junk).set i (.int .u64 d[j]!)⟩ 59 (0, 0)) true :: rest
  let ol2 : OL := uE g 59 (swp d i j) junk :: rest
  let olf : (Nat → Bool) → OL := fun L => match L 15 with
    | true => ol2
    | false => match L 13 with
      | true => ol1
      | false => ol0
  refine T_drawS (by kernel_rfl) (by kernel_rfl) [.slice (some ⟨g, 0, none⟩) n c, .int .i64 (i : Int), .slice (some ⟨g, 0, none⟩) n c, .int .i64 (j : Int), .slice (some ⟨g, 0, none⟩) n c, .int .i64 (j : Int), .pointer (some ⟨g, 0 + j, none⟩), .int .u64 d[j]!, .slice (some ⟨g, 0, none⟩) n c, .int .i64 (i : Int), .pointer (some ⟨g, 0 + i, none⟩), .int .u64 d[i]!, .pointer (some ⟨g, 0 + i, none⟩), undef, .pointer (some ⟨g, 0 + j, none⟩), undef] rfl olf rfl ?_ (l' := [(0, .slice (some ⟨g, 0, none⟩) n c), (6, .int .i64 (i : Int)), (7, .int .i64 (j : Int))]) (ol' := ol2) (fun L h => by simp only [olf, h 15 (by decide)]) (by repeat (first | exact SubD.nil | refine SubD.cons rfl ?_)) ?_
  · refine ⟨?_, ?_, ?_, ?_, ?_, ?_, ?_, ?_, ?_, ?_, ?_, ?_, ?_, ?_, ?_, ?_, trivial⟩
    · exact fun L hc hl hp => OpS.ofD rfl (D_pure tabOk rfl D_last)
    · exact fun L hc hl hp => OpS.ofD rfl (D_pure tabOk rfl D_last)
    · exact fun L hc hl hp => OpS.ofD rfl (D_pure tabOk rfl D_last)
    · exact fun L hc hl hp => OpS.ofD rfl (D_pure tabOk rfl D_last)
    · exact fun L hc hl hp => OpS.ofD rfl (D_pure tabOk rfl D_last)
    · exact fun L hc hl hp => OpS.ofD rfl (D_pure tabOk rfl D_last)
    · exact fun L hc hl hp => OpS.ofD rfl (D_q (Q_idx1 tabOk rfl rfl rfl rfl rfl rfl rfl (j := j) (by omega) (by omega)) D_last)
    · intro L hc hl hp
      have h13 := closed_no hc (j := 13) rfl ⟨7, .data⟩ (by simp) rfl hl
      have h15 := closed_no hc (j := 15) rfl ⟨7, .phase⟩ (by simp) rfl hl
      have e1 : olf L = ol0 := by simp only [olf, h13, h15]
      have e2 : olf (add L 7) = ol0 := by simp [olf, add, h13, h15]
      rw [e1, e2]
      exact OpS.ofD rfl (D_load1 tabOk (v := .int .u64 d[j]!) rfl rfl (fun w' hw => blkc hw (uA_get (by omega))) D_last)
    · exact fun L hc hl hp => OpS.ofD rfl (D_pure tabOk rfl D_last)
    · exact fun L hc hl hp => OpS.ofD rfl (D_pure tabOk rfl D_last)
    · exact fun L hc hl hp => OpS.ofD rfl (D_q (Q_idx1 tabOk rfl rfl rfl rfl rfl rfl rfl (j := i) (by omega) (by omega)) D_last)
    · intro L hc hl hp
      have h13 := closed_no hc (j := 13) rfl ⟨11, .phase⟩ (by simp) rfl hl
      have h15 := closed_no hc (j := 15) rfl ⟨11, .data⟩ (by simp) rfl hl
      have e1 : olf L = ol0 := by simp only [olf, h13, h15]
      have e2 : olf (add L 11) = ol0 := by simp [olf, add, h13, h15]
      rw [e1, e2]
      exact OpS.ofD rfl (D_load1 tabOk (v := .int .u64 d[i]!) rfl rfl (fun w' hw => blkc hw (uA_get (by omega))) D_last)
    · exact fun L hc hl hp => OpS.ofD rfl (D_q (Q_idx1 tabOk rfl rfl rfl rfl rfl rfl rfl (j := i) (by omega) (by omega)) D_last)
    · intro L hc hl hp
      have h15 := closed_no hc (j := 15) rfl ⟨13, .chain⟩ (by simp) rfl hl
      have e1 : olf L = ol0 := by simp only [olf, hl, h15]
      have e2 : olf (add L 13) = ol1 := by simp [olf, add, h15]
      rw [e1, e2]
      exact OpS.store tabOk 0 rfl rfl (by intro x hx; rw [List.mem_singleton] at hx; subst hx; rfl) rfl (by rw [Nat.zero_add]; exact setMany_1 (by rw [uA_len]; omega)) rfl
    · exact fun L hc hl hp => OpS.ofD rfl (D_q (Q_idx1 tabOk rfl rfl rfl rfl rfl rfl rfl (j := j) (by omega) (by omega)) D_last)
    · intro L hc hl hp
      have h13 : L 13 = true := hp ⟨13, .chain⟩ (by simp) rfl
      have e1 : olf L = ol1 := by simp only [olf, h13, hl]
      have e2 : olf (add L 15) = ol2 := by simp [olf, add]
      rw [e1, e2]
      exact OpS.store tabOk 0 rfl rfl (by intro x hx; rw [List.mem_singleton] at hx; subst hx; rfl) rfl (by rw [Nat.zero_add]; exact (setMany_1 (by rw [List.length_set, uA_len]; omega)).trans (congrArg some (uA_swp (by omega) (by omega)))) rfl
  clear olf ol0 ol1
  dsimp only [ol2]
  clear ol2
  repeat (first | refine T_seq ?_ | refine T_region ?_ | refine S_nil ?_ | refine pthen_normal ?_ | refine inb_normal ?_ | refine S_i64 tabOk rfl (by omega) ?_ | refine S_pure tabOk rfl ?_ | refine T_region_any ?_)
  exact ⟨⟨i + 1, j - 1, swp d i j⟩, ⟨by dsimp only; omega, by dsimp only; omega, hR⟩, (by dsimp only; repeat (first | exact Sub.nil | refine Sub.cons rfl ?_ | refine Sub.cons_int rfl (by omega) ?_)), fun w' hw => hw, by dsimp only; omega⟩
end Go.Proofs.Yteogkadjambmkaa
