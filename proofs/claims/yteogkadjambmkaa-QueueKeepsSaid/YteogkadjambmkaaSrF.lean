/-
  slices.Sort at uint64: the pivot, the patterns. Conditions: each theorem's own. (Made by genSr.py.)
-/
import Derived.Test.YteogkadjambmkaaSrE
namespace Go.Proofs.Yteogkadjambmkaa
open Go Go.RowKit Go.Sort
set_option linter.unusedVariables false

set_option maxHeartbeats 1000000 in
theorem order2_ok {w0 w : World} {g c n bs : Nat} {d : Array Int} {junk : List Value} {rest : OL} {s : Int} (x y : Nat) (h : Hp w0 w (uE g 59 d junk :: .blk bs (.cells ⟨[.int .i64 s]⟩ 3 (0, 0)) true :: rest)) (hd : d.size = n) (hx : x < n) (hy : y < n) : Calls Try.prog 95 #[.slice (some ⟨g, 0, none⟩) n c, .int .i64 (x : Int), .int .i64 (y : Int), .pointer (some ⟨bs, 0, none⟩)] w fun e w' => ∃ (s' : Int) (p q : Nat), e = .returned (.tuple #[.int .i64 (p : Int), .int .i64 (q : Int)]) ∧ (p = x ∧ q = y ∨ p = y ∧ q = x) ∧ Hp w0 w' (uE g 59 d junk :: .blk bs (.cells ⟨[.int .i64 s']⟩ 3 (0, 0)) true :: rest) := by
  refine enterW4 Try.func95 rfl rfl h ?_
  cases hb : ltI d[y]! d[x]! with
  | true =>
    repeat (first | refine T_draw (by kernel_rfl) (by kernel_rfl) ?_ | refine D_pure tabOk rfl ?_ | refine T_seq ?_ | refine T_region ?_ | refine S_nil ?_ | refine S_pure tabOk rfl ?_)
    refine D_q (Q_idx1 tabOk rfl rfl rfl rfl rfl rfl rfl (j := y) (by omega) (by omega)) ?_
    refine D_load1 tabOk rfl rfl (v := .int .u64 d[y]!) (fun w' hw => blkc hw (uA_get (by omega))) ?_
    repeat (first | refine D_pure tabOk rfl ?_)
    refine D_q (Q_idx1 tabOk rfl rfl rfl rfl rfl rfl rfl (j := x) (by omega) (by omega)) ?_
    refine D_load1 tabOk rfl rfl (v := .int .u64 d[x]!) (fun w' hw => blkc hw (uA_get (by omega))) ?_
    skip
    refine D_callx rfl Try.call84 (v := .bool true) (fun w' vs hw' h => by obtain ⟨u1, _, rfl, rfl, u2, _, rfl, rfl, rfl⟩ := h; exact less_b hb w') ?_
    repeat (first | refine D_all rfl ?_)
    refine T_cond_t rfl ?_
    repeat (first | refine T_seq ?_ | refine T_region ?_ | refine S_nil ?_ | refine pthen_ret ?_ | refine T_ret ?_ | refine S_pure tabOk rfl ?_ | refine S_load tabOk 1 rfl rfl rfl ?_ | refine S_store tabOk 1 rfl rfl rfl rfl rfl rfl ?_)
    exact ret2 rfl rfl rfl (fun w' hw => ⟨_, y, x, rfl, .inr ⟨rfl, rfl⟩, hw⟩)
  | false =>
    repeat (first | refine T_draw (by kernel_rfl) (by kernel_rfl) ?_ | refine D_pure tabOk rfl ?_ | refine T_seq ?_ | refine T_region ?_ | refine S_nil ?_ | refine S_pure tabOk rfl ?_)
    refine D_q (Q_idx1 tabOk rfl rfl rfl rfl rfl rfl rfl (j := y) (by omega) (by omega)) ?_
    refine D_load1 tabOk rfl rfl (v := .int .u64 d[y]!) (fun w' hw => blkc hw (uA_get (by omega))) ?_
    repeat (first | refine D_pure tabOk rfl ?_)
    refine D_q (Q_idx1 tabOk rfl rfl rfl rfl rfl rfl rfl (j := x) (by omega) (by omega)) ?_
    refine D_load1 tabOk rfl rfl (v := .int .u64 d[x]!) (fun w' hw => blkc hw (uA_get (by omega))) ?_
    skip
    refine D_callx rfl Try.call84 (v := .bool false) (fun w' vs hw' h => by obtain ⟨u1, _, rfl, rfl, u2, _, rfl, rfl, rfl⟩ := h; exact less_b hb w') ?_
    repeat (first | refine D_all rfl ?_)
    refine T_cond_f rfl ?_
    repeat (first | refine T_seq ?_ | refine T_region ?_ | refine S_nil ?_ | refine pthen_normal ?_ | refine T_skip ?_ | refine T_ret ?_ | refine S_pure tabOk rfl ?_)
    exact ret2 rfl rfl rfl (fun w' hw => ⟨_, x, y, rfl, .inl ⟨rfl, rfl⟩, hw⟩)
theorem median_ok {w0 w : World} {g c n bs : Nat} {d : Array Int} {junk : List Value} {rest : OL} {s : Int} (x y z : Nat) (h : Hp w0 w (uE g 59 d junk :: .blk bs (.cells ⟨[.int .i64 s]⟩ 3 (0, 0)) true :: rest)) (hd : d.size = n) (hx : x < n) (hy : y < n) (hz : z < n) : Calls Try.prog 93 #[.slice (some ⟨g, 0, none⟩) n c, .int .i64 (x : Int), .int .i64 (y : Int), .int .i64 (z : Int), .pointer (some ⟨bs, 0, none⟩)] w fun e w' => ∃ (s' : Int) (m : Nat), e = .returned (.int .i64 (m : Int)) ∧ (m = x ∨ m = y ∨ m = z) ∧ Hp w0 w' (uE g 59 d junk :: .blk bs (.cells ⟨[.int .i64 s']⟩ 3 (0, 0)) true :: rest) := by
  refine enterW5 Try.func93 rfl rfl h ?_
  repeat (first | refine T_seq ?_ | refine T_region ?_ | refine S_nil ?_ | refine S_pure tabOk rfl ?_)
  refine S_call rfl Try.call95 (fun w1 h1 => (order2_ok x y h1 hd hx hy).mono fun e w' ⟨s1, p1, q1, e1, f1, h2⟩ => ⟨_, _, e1, h2, ?_⟩)
  repeat (first | refine T_seq ?_ | refine T_region ?_ | refine S_nil ?_ | refine S_pure tabOk rfl ?_)
  refine S_call rfl Try.call95 (fun w1 h1 => (order2_ok q1 z h1 hd (by omega) hz).mono fun e w' ⟨s2, p2, q2, e2, f2, h2⟩ => ⟨_, _, e2, h2, ?_⟩)
  repeat (first | refine T_seq ?_ | refine T_region ?_ | refine S_nil ?_ | refine S_pure tabOk rfl ?_)
  refine S_call rfl Try.call95 (fun w1 h1 => (order2_ok p1 p2 h1 hd (by omega) (by omega)).mono fun e w' ⟨s3, p3, q3, e3, f3, h2⟩ => ⟨_, _, e3, h2, ?_⟩)
  repeat (first | refine T_seq ?_ | refine T_region ?_ | refine S_nil ?_ | refine T_ret ?_ | refine S_pure tabOk rfl ?_)
  exact ret1 rfl rfl (fun w' hw => ⟨_, q3, rfl, by omega, hw⟩)
theorem medadj_ok {w0 w : World} {g c n bs : Nat} {d : Array Int} {junk : List Value} {rest : OL} {s : Int} (x : Nat) (h : Hp w0 w (uE g 59 d junk :: .blk bs (.cells ⟨[.int .i64 s]⟩ 3 (0, 0)) true :: rest)) (hd : d.size = n) (hx : 1 ≤ x) (hx2 : x + 1 < n) (hm : n ≤ 1152921504606846976) : Calls Try.prog 92 #[.slice (some ⟨g, 0, none⟩) n c, .int .i64 (x : Int), .pointer (some ⟨bs, 0, none⟩)] w fun e w' => ∃ (s' : Int) (m : Nat), e = .returned (.int .i64 (m : Int)) ∧ x ≤ m + 1 ∧ m ≤ x + 1 ∧ Hp w0 w' (uE g 59 d junk :: .blk bs (.cells ⟨[.int .i64 s']⟩ 3 (0, 0)) true :: rest) := by
  refine enterW3 Try.func92 rfl rfl h ?_
  repeat (first | refine T_seq ?_ | refine T_region ?_ | refine S_nil ?_ | refine S_i64 tabOk rfl (by omega) ?_ | refine S_pure tabOk rfl ?_)
  refine S_re 9 (v' := .int .i64 ((x - 1 : Nat) : Int)) rfl (congrArg (Value.int .i64) (by omega)) ?_
  refine S_re 12 (v' := .int .i64 ((x + 1 : Nat) : Int)) rfl (congrArg (Value.int .i64) (by omega)) ?_
  refine S_call rfl Try.call93 (fun w1 h1 => (median_ok (x - 1) x (x + 1) h1 hd (by omega) (by omega) (by omega)).mono fun e w' ⟨s1, m, e1, f1, h2⟩ => ⟨_, _, e1, h2, ?_⟩)
  repeat (first | refine S_nil ?_ | refine T_ret ?_ | refine S_pure tabOk rfl ?_)
  exact ret1 rfl rfl (fun w' hw => ⟨_, m, rfl, by omega, by omega, hw⟩)
set_option maxHeartbeats 4000000 in
theorem pivot_ok {w0 w : World} {g c n : Nat} {d : Array Int} {junk : List Value} {rest : OL} (a b : Nat) (h : Hp w0 w (uE g 59 d junk :: rest)) (hd : d.size = n) (hab : a < b) (hb : b ≤ n) (hm : n ≤ 65535) : Calls Try.prog 81 #[.slice (some ⟨g, 0, none⟩) n c, .int .i64 (a : Int), .int .i64 (b : Int)] w fun e w' => ∃ (p : Nat) (t : Int), e = .returned (.tuple #[.int .i64 (p : Int), .int .i64 t]) ∧ a ≤ p ∧ p < b ∧ Hp w0 w' (uE g 59 d junk :: rest) := by
  refine enterW3 Try.func81 rfl rfl h ?_
  obtain ⟨l, hl⟩ : ∃ l, l = b - a := ⟨_, rfl⟩
  obtain ⟨r, hr⟩ : ∃ r, r = l / 4 := ⟨_, rfl⟩
  repeat (first | refine T_seq ?_ | refine T_region ?_ | refine S_nil ?_ | refine S_i64 tabOk rfl (by omega) ?_ | refine S_pure tabOk rfl ?_)
  refine S_re 8 (v' := .int .i64 ((l : Nat) : Int)) rfl (congrArg (Value.int .i64) (by omega)) ?_
  refine S_new tabOk rfl (fun bs hbs => ?_)
  repeat (first | refine T_seq ?_ | refine T_region ?_ | refine S_nil ?_ | refine S_pure tabOk rfl ?_)
  refine S_q (Q_quo0 rfl rfl rfl (by omega) (by omega) (fun e h1 h2 => IntWalk.i64_in _ (by omega))) ?_
  refine S_re 18 (v' := .int .i64 ((r : Nat) : Int)) rfl (congrArg (Value.int .i64) (by omega)) ?_
  repeat (first | refine T_seq ?_ | refine T_region ?_ | refine S_nil ?_ | refine S_i64 tabOk rfl (by omega) ?_ | refine S_pure tabOk rfl ?_)
  refine S_q (Q_quo0 rfl rfl rfl (by omega) (by omega) (fun e h1 h2 => IntWalk.i64_in _ (by omega))) ?_
  refine S_re 23 (v' := .int .i64 ((r : Nat) : Int)) rfl (congrArg (Value.int .i64) (by omega)) ?_
  repeat (first | refine T_seq ?_ | refine T_region ?_ | refine S_nil ?_ | refine S_i64 tabOk rfl (by omega) ?_ | refine S_pure tabOk rfl ?_)
  refine S_q (Q_quo0 rfl rfl rfl (by omega) (by omega) (fun e h1 h2 => IntWalk.i64_in _ (by omega))) ?_
  refine S_re 28 (v' := .int .i64 ((r : Nat) : Int)) rfl (congrArg (Value.int .i64) (by omega)) ?_
  repeat (first | refine T_seq ?_ | refine T_region ?_ | refine S_nil ?_ | refine S_i64 tabOk rfl (by omega) ?_ | refine S_pure tabOk rfl ?_)
  refine T_toX (ι := Unit) (fun _ => True) (fun _ => uE g 59 d junk :: .blk bs (.cells ⟨[.int .i64 0]⟩ 3 (0, 0)) true :: rest) (fun w hw => ⟨(), trivial, hw.perm (List.Perm.swap _ _ _)⟩) (fun _ _ => ?_)
  refine T_cut (ι := Int × Nat) (fun j => a ≤ j.2 ∧ j.2 < b) (fun j => [(9, .pointer (some ⟨bs, 0, none⟩)), (11, .int .i64 (j.2 : Int))]) (fun j => uE g 59 d junk :: .blk bs (.cells ⟨[.int .i64 j.1]⟩ 3 (0, 0)) true :: rest) ?_ ?_
  · refine T_cond_dec rfl (fun h8 => ?_) (fun h8 => ?_)
    rotate_left
    · repeat (first | refine pthen_normal ?_ | refine T_skip ?_)
      exact ⟨(0, a + r * 2), ⟨by dsimp only; omega, by dsimp only; omega⟩, (by dsimp only; repeat (first | exact Sub.nil | refine Sub.cons rfl ?_)), fun w' hw => hw⟩
    repeat (first | refine T_seq ?_ | refine T_region ?_ | refine S_nil ?_ | refine S_pure tabOk rfl ?_)
    refine T_cut (ι := Int × Nat × Nat × Nat) (fun j => a ≤ j.2.1 ∧ j.2.1 < b ∧ a ≤ j.2.2.1 ∧ j.2.2.1 < b ∧ a ≤ j.2.2.2 ∧ j.2.2.2 < b) (fun j => [(0, .slice (some ⟨g, 0, none⟩) n c), (9, .pointer (some ⟨bs, 0, none⟩)), (10, .int .i64 (j.2.1 : Int)), (11, .int .i64 (j.2.2.1 : Int)), (12, .int .i64 (j.2.2.2 : Int))]) (fun j => uE g 59 d junk :: .blk bs (.cells ⟨[.int .i64 j.1]⟩ 3 (0, 0)) true :: rest) ?_ ?_
    · refine T_cond_dec rfl (fun h50 => ?_) (fun h50 => ?_)
      rotate_left
      · repeat (first | refine pthen_normal ?_ | refine T_skip ?_)
        exact ⟨(0, a + r, a + r * 2, a + r * 3), ⟨by dsimp only; omega, by dsimp only; omega, by dsimp only; omega, by dsimp only; omega, by dsimp only; omega, by dsimp only; omega⟩, (by dsimp only; repeat (first | exact Sub.nil | refine Sub.cons rfl ?_ | refine Sub.cons_int rfl (by omega) ?_)), fun w' hw => hw⟩
      repeat (first | refine T_seq ?_ | refine T_region ?_ | refine S_pure tabOk rfl ?_)
      refine S_re 36 (v' := .int .i64 ((a + r : Nat) : Int)) rfl (congrArg (Value.int .i64) (by omega)) ?_
      refine S_call rfl Try.call92 (fun w1 h1 => (medadj_ok (a + r) h1 hd (by omega) (by omega) (by omega)).mono fun e w' ⟨s1, m1, e1, f1, f2, h2⟩ => ⟨_, _, e1, h2, ?_⟩)
      repeat (first | refine T_seq ?_ | refine T_region ?_ | refine S_nil ?_ | refine S_pure tabOk rfl ?_)
      refine S_re 39 (v' := .int .i64 ((a + r * 2 : Nat) : Int)) rfl (congrArg (Value.int .i64) (by omega)) ?_
      refine S_call rfl Try.call92 (fun w1 h1 => (medadj_ok (a + r * 2) h1 hd (by omega) (by omega) (by omega)).mono fun e w' ⟨s2, m2, e1, f3, f4, h2⟩ => ⟨_, _, e1, h2, ?_⟩)
      repeat (first | refine T_region ?_ | refine S_nil ?_ | refine S_pure tabOk rfl ?_)
      refine S_re 42 (v' := .int .i64 ((a + r * 3 : Nat) : Int)) rfl (congrArg (Value.int .i64) (by omega)) ?_
      refine S_call rfl Try.call92 (fun w1 h1 => (medadj_ok (a + r * 3) h1 hd (by omega) (by omega) (by omega)).mono fun e w' ⟨s3, m3, e1, f5, f6, h2⟩ => ⟨_, _, e1, h2, ?_⟩)
      repeat (first | refine S_nil ?_ | refine S_pure tabOk rfl ?_)
      exact ⟨(s3, m1, m2, m3), ⟨by dsimp only; omega, by dsimp only; omega, by dsimp only; omega, by dsimp only; omega, by dsimp only; omega, by dsimp only; omega⟩, (by dsimp only; repeat (first | exact Sub.nil | refine Sub.cons rfl ?_)), fun w' hw => hw⟩
    rintro ⟨s1, m1, m2, m3⟩ ⟨f1, f2, f3, f4, f5, f6⟩
    dsimp only at f1 f2 f3 f4 f5 f6 ⊢
    repeat (first | refine T_region ?_ | refine S_pure tabOk rfl ?_)
    refine S_call rfl Try.call93 (fun w1 h1 => (median_ok m1 m2 m3 h1 hd (by omega) (by omega) (by omega)).mono fun e w' ⟨s4, m4, e1, f7, h2⟩ => ⟨_, _, e1, h2, ?_⟩)
    repeat (first | refine S_nil ?_ | refine S_pure tabOk rfl ?_)
    exact ⟨(s4, m4), ⟨by dsimp only; omega, by dsimp only; omega⟩, (by dsimp only; repeat (first | exact Sub.nil | refine Sub.cons rfl ?_)), fun w' hw => hw⟩
  rintro ⟨s, p⟩ ⟨f1, f2⟩
  dsimp only at f1 f2 ⊢
  repeat (first | refine T_seq ?_ | refine T_region ?_ | refine T_block ?_ | refine S_nil ?_ | refine S_pure tabOk rfl ?_ | refine S_load tabOk 1 rfl rfl rfl ?_)
  refine T_cond_dec rfl (fun _ => ?_) (fun _ => ?_)
  · repeat (first | refine T_seq ?_ | refine T_region ?_ | refine S_nil ?_ | refine inb_ret ?_ | refine T_ret ?_ | refine S_pure tabOk rfl ?_)
    exact ret2 rfl rfl rfl (fun w' hw => ⟨p, 1, rfl, f1, f2, (hw.perm (List.Perm.swap _ _ _)).dropn hbs⟩)
  repeat (first | refine T_seq ?_ | refine T_region ?_ | refine S_nil ?_ | refine S_pure tabOk rfl ?_)
  refine T_cond_dec rfl (fun _ => ?_) (fun _ => ?_)
  · repeat (first | refine T_seq ?_ | refine T_region ?_ | refine S_nil ?_ | refine inb_ret ?_ | refine T_ret ?_ | refine S_pure tabOk rfl ?_)
    exact ret2 rfl rfl rfl (fun w' hw => ⟨p, 2, rfl, f1, f2, (hw.perm (List.Perm.swap _ _ _)).dropn hbs⟩)
  repeat (first | refine T_seq ?_ | refine T_region ?_ | refine S_nil ?_ | refine inb_ret ?_ | refine T_ret ?_ | refine S_pure tabOk rfl ?_)
  exact ret2 rfl rfl rfl (fun w' hw => ⟨p, 0, rfl, f1, f2, (hw.perm (List.Perm.swap _ _ _)).dropn hbs⟩)
structure SrX where
  i : Nat
  z : Nat
  d : Array Int
set_option maxHeartbeats 4000000 in
theorem break_ok {w0 w : World} {g c n : Nat} {d0 : Array Int} {junk : List Value} {rest : OL} (a b : Nat) (h : Hp w0 w (uE g 59 d0 junk :: rest)) (hn : d0.size = n) (hab : a ≤ b) (hb : b ≤ n) (hm : n ≤ 65535) : Calls Try.prog 80 #[.slice (some ⟨g, 0, none⟩) n c, .int .i64 (a : Int), .int .i64 (b : Int)] w fun e w' => ∃ d, e = .returned (.tuple #[]) ∧ PermIn a b d0 d ∧ d.size = n ∧ Hp w0 w' (uE g 59 d junk :: rest) := by
  refine enterW3 Try.func80 rfl rfl h ?_
  obtain ⟨l, hl⟩ : ∃ l, l = b - a := ⟨_, rfl⟩
  obtain ⟨r, hr⟩ : ∃ r, r = l / 4 := ⟨_, rfl⟩
  repeat (first | refine T_seq ?_ | refine T_region ?_ | refine S_nil ?_ | refine S_i64 tabOk rfl (by omega) ?_ | refine S_pure tabOk rfl ?_)
  refine T_asThen ?_
  refine T_cond_dec rfl (fun h8 => ?_) (fun h8 => ?_)
  rotate_left
  · repeat (first | refine pthen_normal ?_ | refine T_skip ?_)
    exact ret0n rfl (fun w' hw => ⟨d0, rfl, permIn_refl _ _ _, hn, hw⟩)
  refine T_sub (l' := [(0, .slice (some ⟨g, 0, none⟩) n c), (1, .int .i64 (a : Int)), (2, .int .i64 (b : Int)), (6, .int .i64 ((l : Nat) : Int))]) (by repeat (first | exact Sub.nil | refine Sub.cons rfl ?_ | refine Sub.cons_int rfl (by omega) ?_)) ?_
  repeat (first | refine T_seq ?_ | refine T_region ?_ | refine S_u64 tabOk rfl (by omega) ?_ | refine S_pure tabOk rfl ?_)
  refine S_new tabOk rfl (fun bx hbx => ?_)
  repeat (first | refine T_seq ?_ | refine T_region ?_ | refine S_nil ?_ | refine S_pure tabOk rfl ?_ | refine S_store tabOk 0 rfl rfl rfl rfl rfl rfl ?_)
  refine S_callE (fun v => ∃ m : Nat, v = .int .u64 (m : Int) ∧ 1 ≤ m ∧ (m : Int) ≤ 2 * (l : Int)) rfl Try.call90 (fun w1 h1 => (npow_ok (x := (l : Int)) ⟨by omega, by omega⟩ w1).mono fun e w' ⟨m, e1, e2, e3, e4⟩ => ⟨_, e1, e4, m, rfl, e2, e3⟩) (fun v hv => ?_)
  obtain ⟨m, rfl, hm1, hm2⟩ := hv
  repeat (first | refine T_seq ?_ | refine T_region ?_ | refine S_nil ?_ | refine S_pure tabOk rfl ?_)
  refine S_q (Q_quo0 rfl rfl rfl (by omega) (by omega) (fun e h1 h2 => IntWalk.i64_in _ (by omega))) ?_
  refine S_re 22 (v' := .int .i64 ((r : Nat) : Int)) rfl (congrArg (Value.int .i64) (by omega)) ?_
  repeat (first | refine S_nil ?_ | refine S_i64 tabOk rfl (by omega) ?_ | refine S_pure tabOk rfl ?_)
  refine T_toX (ι := Unit) (fun _ => True) (fun _ => uE g 59 d0 junk :: xsE bx l :: rest) (fun w hw => ⟨(), trivial, hw.perm (List.Perm.swap _ _ _)⟩) (fun _ _ => ?_)
  refine T_asThen ?_
  refine T_block ?_
  refine T_loop (ι := SrX) (fun t => [(0, .slice (some ⟨g, 0, none⟩) n c), (1, .int .i64 (a : Int)), (2, .int .i64 (b : Int)), (6, .int .i64 ((l : Nat) : Int)), (7, .pointer (some ⟨bx, 0, none⟩)), (8, .int .u64 (m : Int)), (9, .int .i64 (t.i : Int))]) (fun t => uE g 59 t.d junk :: xsE bx t.z :: rest) (fun t => a + r * 2 ≤ t.i + 1 ∧ t.i ≤ a + r * 2 + 2 ∧ t.z < 18446744073709551616 ∧ t.d.size = n ∧ PermIn a b d0 t.d) (fun t => a + r * 2 + 2 - t.i) ⟨a + r * 2 - 1, l, d0⟩ ⟨by dsimp only; omega, by dsimp only; omega, by dsimp only; omega, hn, permIn_refl _ _ _⟩ (by dsimp only; repeat (first | exact Sub.nil | refine Sub.cons rfl ?_ | refine Sub.cons_int rfl (by omega) ?_)) (fun w' hw => hw) ?_
  rintro ⟨i, z, d⟩ ⟨hi1, hi2, hz, hd, hP⟩
  dsimp only at hi1 hi2 hz hd hP ⊢
  repeat (first | refine T_seq ?_ | refine T_region ?_ | refine S_pure tabOk rfl ?_)
  refine S_q (Q_quo0 rfl rfl rfl (by omega) (by omega) (fun e h1 h2 => IntWalk.i64_in _ (by omega))) ?_
  refine S_re 29 (v' := .int .i64 ((r : Nat) : Int)) rfl (congrArg (Value.int .i64) (by omega)) ?_
  repeat (first | refine S_nil ?_ | refine S_i64 tabOk rfl (by omega) ?_ | refine S_pure tabOk rfl ?_)
  refine T_cond_dec rfl (fun hc => ?_) (fun hc => ?_)
  rotate_left
  · repeat (first | refine pthen_normal ?_ | refine inb_hit ?_ | refine pthen_exit ?_ | refine T_exit ?_)
    exact ret0n rfl (fun w' hw => ⟨d, rfl, hP, hd, (hw.perm (List.Perm.swap _ _ _)).dropn hbx⟩)
  repeat (first | refine T_seq ?_ | refine T_region ?_ | refine T_block ?_ | refine pthen_normal ?_ | refine T_skip ?_)
  refine S_call rfl Try.call91 (fun w1 h1 => (next_ok z hz (h1.perm (List.Perm.swap _ _ _))).mono fun e w' ⟨z1, e1, hz1, h2⟩ => ⟨_, _, e1, h2.perm (List.Perm.swap _ _ _), ?_⟩)
  obtain ⟨o, ho⟩ : ∃ o, o = z1 &&& (m - 1) := ⟨_, rfl⟩
  have hom : o ≤ m - 1 := by rw [ho]; exact Nat.and_le_right
  have hob : IntKind.i64.wrap (bits .and .u64 (z1 : Int) ((m : Int) - 1)) = (o : Int) := by
    rw [show ((m : Int) - 1) = ((m - 1 : Nat) : Int) by omega, bits_and_u64_nat _ _ hz1 (by omega), ← ho, IntKind.wrap_i64]
    omega
  repeat (first | refine T_seq ?_ | refine T_region ?_ | refine S_nil ?_ | refine S_u64 tabOk rfl (by omega) ?_ | refine S_pure tabOk rfl ?_)
  refine T_sub (l' := [(0, .slice (some ⟨g, 0, none⟩) n c), (1, .int .i64 (a : Int)), (2, .int .i64 (b : Int)), (6, .int .i64 ((l : Nat) : Int)), (7, .pointer (some ⟨bx, 0, none⟩)), (8, .int .u64 (m : Int)), (9, .int .i64 (i : Int)), (10, .int .i64 (o : Int)), (43, .bool (decide ((l : Int) ≤ (o : Int))))]) (by rw [hob]; repeat (first | exact Sub.nil | refine Sub.cons rfl ?_)) ?_
  refine T_cut (ι := Nat) (fun j => j < l) (fun j => [(0, .slice (some ⟨g, 0, none⟩) n c), (1, .int .i64 (a : Int)), (2, .int .i64 (b : Int)), (6, .int .i64 ((l : Nat) : Int)), (7, .pointer (some ⟨bx, 0, none⟩)), (8, .int .u64 (m : Int)), (9, .int .i64 (i : Int)), (10, .int .i64 (j : Int))]) (fun _ => uE g 59 d junk :: xsE bx z1 :: rest) ?_ ?_
  · refine T_cond_dec rfl (fun h => ?_) (fun h => ?_)
    · repeat (first | refine T_region ?_ | refine S_nil ?_ | refine S_i64 tabOk rfl (by omega) ?_ | refine S_pure tabOk rfl ?_)
      exact ⟨o - l, by omega, by repeat (first | exact Sub.nil | refine Sub.cons rfl ?_ | refine Sub.cons_int rfl (by omega) ?_), fun w' hw => hw⟩
    · repeat (first | refine pthen_normal ?_ | refine T_skip ?_)
      exact ⟨o, by omega, by repeat (first | exact Sub.nil | refine Sub.cons rfl ?_), fun w' hw => hw⟩
  clear hob hom ho
  intro o hol
  skip
  have hs := swp_size d i (a + o)
  let ol0 : OL := uE g 59 d junk :: xsE bx z1 :: rest
  let ol1 : OL := .blk g (.cells ⟨(uA d junk).set i (.int .u64 d[(a + o)]!)⟩ 59 (0, 0)) true :: xsE bx z1 :: rest
  let ol2 : OL := uE g 59 (swp d i (a + o)) junk :: xsE bx z1 :: rest
  let olf : (Nat → Bool) → OL := fun L => match L 19 with
    | true => ol2
    | false => match L 17 with
      | true => ol1
      | false => ol0
  refine T_asThen ?_
  refine T_drawS (by kernel_rfl) (by kernel_rfl) [.slice (some ⟨g, 0, none⟩) n c, .int .i64 (i : Int), .slice (some ⟨g, 0, none⟩) n c, .int .i64 (a : Int), .int .i64 (o : Int), .int .i64 ((a : Int) + (o : Int)), .slice (some ⟨g, 0, none⟩) n c, .int .i64 (a : Int), .int .i64 (o : Int), .int .i64 ((a : Int) + (o : Int)), .pointer (some ⟨g, 0 + (a + o), none⟩), .int .u64 d[(a + o)]!, .slice (some ⟨g, 0, none⟩) n c, .int .i64 (i : Int), .pointer (some ⟨g, 0 + i, none⟩), .int .u64 d[i]!, .pointer (some ⟨g, 0 + i, none⟩), undef, .pointer (some ⟨g, 0 + (a + o), none⟩), undef] rfl olf rfl ?_ (l' := [(0, .slice (some ⟨g, 0, none⟩) n c), (1, .int .i64 (a : Int)), (2, .int .i64 (b : Int)), (6, .int .i64 ((l : Nat) : Int)), (7, .pointer (some ⟨bx, 0, none⟩)), (8, .int .u64 (m : Int)), (9, .int .i64 (i : Int))]) (ol' := ol2) (fun L h => by simp only [olf, h 19 (by decide)]) (by repeat (first | exact SubD.nil | refine SubD.cons rfl ?_)) ?_
  · refine ⟨?_, ?_, ?_, ?_, ?_, ?_, ?_, ?_, ?_, ?_, ?_, ?_, ?_, ?_, ?_, ?_, ?_, ?_, ?_, ?_, trivial⟩
    · exact fun L hc hl hp => OpS.ofD rfl (D_pure tabOk rfl D_last)
    · exact fun L hc hl hp => OpS.ofD rfl (D_pure tabOk rfl D_last)
    · exact fun L hc hl hp => OpS.ofD rfl (D_pure tabOk rfl D_last)
    · exact fun L hc hl hp => OpS.ofD rfl (D_pure tabOk rfl D_last)
    · exact fun L hc hl hp => OpS.ofD rfl (D_pure tabOk rfl D_last)
    · exact fun L hc hl hp => OpS.ofD rfl (D_i64 tabOk rfl (by omega) D_last)
    · exact fun L hc hl hp => OpS.ofD rfl (D_pure tabOk rfl D_last)
    · exact fun L hc hl hp => OpS.ofD rfl (D_pure tabOk rfl D_last)
    · exact fun L hc hl hp => OpS.ofD rfl (D_pure tabOk rfl D_last)
    · exact fun L hc hl hp => OpS.ofD rfl (D_i64 tabOk rfl (by omega) D_last)
    · exact fun L hc hl hp => OpS.ofD rfl (D_q (Q_idx1 tabOk rfl rfl rfl rfl rfl rfl rfl (j := (a + o)) (by omega) (by omega)) D_last)
    · intro L hc hl hp
      have h17 := closed_no hc (j := 17) rfl ⟨11, .data⟩ (by simp) rfl hl
      have h19 := closed_no hc (j := 19) rfl ⟨11, .phase⟩ (by simp) rfl hl
      have e1 : olf L = ol0 := by simp only [olf, h17, h19]
      have e2 : olf (add L 11) = ol0 := by simp [olf, add, h17, h19]
      rw [e1, e2]
      exact OpS.ofD rfl (D_load1 tabOk (v := .int .u64 d[(a + o)]!) rfl rfl (fun w' hw => blkc hw (uA_get (by omega))) D_last)
    · exact fun L hc hl hp => OpS.ofD rfl (D_pure tabOk rfl D_last)
    · exact fun L hc hl hp => OpS.ofD rfl (D_pure tabOk rfl D_last)
    · exact fun L hc hl hp => OpS.ofD rfl (D_q (Q_idx1 tabOk rfl rfl rfl rfl rfl rfl rfl (j := i) (by omega) (by omega)) D_last)
    · intro L hc hl hp
      have h17 := closed_no hc (j := 17) rfl ⟨15, .phase⟩ (by simp) rfl hl
      have h19 := closed_no hc (j := 19) rfl ⟨15, .data⟩ (by simp) rfl hl
      have e1 : olf L = ol0 := by simp only [olf, h17, h19]
      have e2 : olf (add L 15) = ol0 := by simp [olf, add, h17, h19]
      rw [e1, e2]
      exact OpS.ofD rfl (D_load1 tabOk (v := .int .u64 d[i]!) rfl rfl (fun w' hw => blkc hw (uA_get (by omega))) D_last)
    · exact fun L hc hl hp => OpS.ofD rfl (D_q (Q_idx1 tabOk rfl rfl rfl rfl rfl rfl rfl (j := i) (by omega) (by omega)) D_last)
    · intro L hc hl hp
      have h19 := closed_no hc (j := 19) rfl ⟨17, .chain⟩ (by simp) rfl hl
      have e1 : olf L = ol0 := by simp only [olf, hl, h19]
      have e2 : olf (add L 17) = ol1 := by simp [olf, add, h19]
      rw [e1, e2]
      exact OpS.store tabOk 0 rfl rfl (by intro x hx; rw [List.mem_singleton] at hx; subst hx; rfl) rfl (by rw [Nat.zero_add]; exact setMany_1 (by rw [uA_len]; omega)) rfl
    · exact fun L hc hl hp => OpS.ofD rfl (D_q (Q_idx1 tabOk rfl rfl rfl rfl rfl rfl rfl (j := (a + o)) (by omega) (by omega)) D_last)
    · intro L hc hl hp
      have h17 : L 17 = true := hp ⟨17, .chain⟩ (by simp) rfl
      have e1 : olf L = ol1 := by simp only [olf, h17, hl]
      have e2 : olf (add L 19) = ol2 := by simp [olf, add]
      rw [e1, e2]
      exact OpS.store tabOk 0 rfl rfl (by intro x hx; rw [List.mem_singleton] at hx; subst hx; rfl) rfl (by rw [Nat.zero_add]; exact (setMany_1 (by rw [List.length_set, uA_len]; omega)).trans (congrArg some (uA_swp (by omega) (by omega)))) rfl
  clear olf ol0 ol1
  dsimp only [ol2]
  clear ol2
  repeat (first | refine T_region ?_ | refine S_nil ?_ | refine pthen_normal ?_ | refine inb_normal ?_ | refine S_i64 tabOk rfl (by omega) ?_ | refine S_pure tabOk rfl ?_)
  exact ⟨⟨i + 1, z1, swp d i (a + o)⟩, ⟨by dsimp only; omega, by dsimp only; omega, hz1, by dsimp only; omega, permIn_trans _ _ _ _ _ hP (swp_permIn d a b i (a + o) (by omega) (by omega) (by omega) (by omega) (by omega))⟩, (by dsimp only; repeat (first | exact Sub.nil | refine Sub.cons rfl ?_)), fun w' hw => hw, by dsimp only; omega⟩
end Go.Proofs.Yteogkadjambmkaa
