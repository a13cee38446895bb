/-
  slices.Sort at uint64: the whole. Conditions: each theorem's own. (Made by genSr.py.)
-/
import Derived.Test.YteogkadjambmkaaSrF
namespace Go.Proofs.Yteogkadjambmkaa
open Go Go.RowKit Go.Sort
set_option linter.unusedVariables false

theorem below_perm {a b : Nat} {d d' : Array Int} (h : Go.Sort.Below ltI a b d) (hb : b ≤ d.size) (hp : PermIn a b d d') : Go.Sort.Below ltI a b d' := Go.Sort.Below.perm h hb hp
structure SrQ where
  a : Nat
  b : Nat
  lim : Nat
  wb : Bool
  wp : Bool
  d : Array Int
structure SrR where
  p : Nat
  t : Int
  d : Array Int
set_option maxHeartbeats 16000000 in
theorem pdq_ok (junk : List Value) (rest : OL) (g c n : Nat) (hm : n ≤ 65535) : ∀ (N : Nat) {w0 w : World} {d0 : Array Int} (a0 b0 lim0 : Nat), b0 - a0 < N → Hp w0 w (uE g 59 d0 junk :: rest) → d0.size = n → a0 ≤ b0 → b0 ≤ n → lim0 ≤ 1000 → Go.Sort.Below ltI a0 b0 d0 → Calls Try.prog 76 #[.slice (some ⟨g, 0, none⟩) n c, .int .i64 (a0 : Int), .int .i64 (b0 : Int), .int .i64 (lim0 : Int)] w fun e w' => ∃ d, e = .returned (.tuple #[]) ∧ PermIn a0 b0 d0 d ∧ SortedIn ltI a0 b0 d ∧ d.size = n ∧ Hp w0 w' (uE g 59 d junk :: rest)
  | 0, w0, w, d0, a0, b0, lim0, hN, _, _, _, _, _, _ => by omega
  | N + 1, w0, w, d0, a0, b0, lim0, hN, h, hn, hab0, hb0, hlim0, hB0 => by
    refine enterW4 Try.func76 rfl rfl h ?_
    repeat (first | refine T_seq ?_ | refine T_region ?_ | refine T_block ?_ | refine S_nil ?_ | refine S_pure tabOk rfl ?_)
    refine T_loop (ι := SrQ) (fun t => [(0, .slice (some ⟨g, 0, none⟩) n c), (1, .int .i64 (t.a : Int)), (2, .int .i64 (t.b : Int)), (3, .int .i64 (t.lim : Int)), (8, .bool t.wb), (9, .bool t.wp)]) (fun t => uE g 59 t.d junk :: rest) (fun t => t.a ≤ t.b ∧ t.b ≤ n ∧ t.b - t.a ≤ b0 - a0 ∧ t.lim ≤ 1000 ∧ t.d.size = n ∧ Go.Sort.Below ltI t.a t.b t.d ∧ ∀ R, PermIn t.a t.b t.d R → SortedIn ltI t.a t.b R → PermIn a0 b0 d0 R ∧ SortedIn ltI a0 b0 R) (fun t => t.b - t.a) ⟨a0, b0, lim0, true, true, d0⟩ ⟨hab0, hb0, Nat.le_refl _, hlim0, hn, hB0, fun R h1 h2 => ⟨h1, h2⟩⟩ (by dsimp only; repeat (first | exact Sub.nil | refine Sub.cons rfl ?_)) (fun w' hw => hw) ?_
    rintro ⟨a, b, lim, wb, wp, d⟩ ⟨hab, hb, hle, hlim, hd, hB, hcont⟩
    dsimp only at hab hb hle hlim hd hB hcont ⊢
    obtain ⟨l, hl⟩ : ∃ l, l = b - a := ⟨_, rfl⟩
    repeat (first | refine T_seq ?_ | refine T_region ?_ | refine T_block ?_ | refine S_nil ?_ | refine S_i64 tabOk rfl (by omega) ?_ | refine S_pure tabOk rfl ?_)
    refine T_cond_dec rfl (fun h12 => ?_) (fun h12 => ?_)
    · repeat (first | refine T_seq ?_ | refine T_region ?_ | refine S_pure tabOk rfl ?_)
      refine S_call rfl Try.call78 (fun w1 h1 => (ins_ok a b h1 hd hab hb (by omega)).mono fun e w' ⟨e1, h2, h3⟩ => ⟨_, _, e1, h2, ?_⟩)
      repeat (first | refine S_nil ?_ | refine inb_ret ?_ | refine pthen_ret ?_ | refine T_ret ?_)
      obtain ⟨p1, p2⟩ := insertionSort_holds (lt := ltI) swoI d a b hab (by omega)
      obtain ⟨c1, c2⟩ := hcont _ p1 p2
      exact ret0 rfl (fun w' hw => ⟨_, rfl, c1, c2, h3, hw⟩)
    repeat (first | refine T_seq ?_ | refine T_region ?_ | refine S_nil ?_ | refine pthen_normal ?_ | refine T_skip ?_ | refine S_pure tabOk rfl ?_)
    refine T_cond_dec rfl (fun h0 => ?_) (fun h0 => ?_)
    · repeat (first | refine T_seq ?_ | refine T_region ?_ | refine S_pure tabOk rfl ?_)
      refine S_call rfl Try.call79 (fun w1 h1 => (hsort_ok a b h1 hd (by omega) hb (by omega)).mono fun e w' ⟨e1, h2, h3⟩ => ⟨_, _, e1, h2, ?_⟩)
      repeat (first | refine S_nil ?_ | refine inb_ret ?_ | refine pthen_ret ?_ | refine T_ret ?_)
      obtain ⟨p1, p2⟩ := heapSort_holds (lt := ltI) swoI d a b hab (by omega)
      obtain ⟨c1, c2⟩ := hcont _ p1 p2
      exact ret0 rfl (fun w' hw => ⟨_, rfl, c1, c2, h3, hw⟩)
    repeat (first | refine T_seq ?_ | refine T_region ?_ | refine S_nil ?_ | refine pthen_normal ?_ | refine T_skip ?_ | refine S_pure tabOk rfl ?_)
    refine T_sub (l' := [(0, .slice (some ⟨g, 0, none⟩) n c), (1, .int .i64 (a : Int)), (2, .int .i64 (b : Int)), (3, .int .i64 (lim : Int)), (8, .bool wb), (9, .bool wp), (10, .int .i64 ((l : Nat) : Int)), (35, .bool (!wb))]) (by repeat (first | exact Sub.nil | refine Sub.cons rfl ?_ | refine Sub.cons_int rfl (by omega) ?_)) ?_
    refine T_cut (ι := Nat × Array Int) (fun j => j.1 ≤ 1000 ∧ j.2.size = n ∧ PermIn a b d j.2) (fun j => [(0, .slice (some ⟨g, 0, none⟩) n c), (1, .int .i64 (a : Int)), (2, .int .i64 (b : Int)), (3, .int .i64 (j.1 : Int)), (8, .bool wb), (9, .bool wp), (10, .int .i64 ((l : Nat) : Int))]) (fun j => uE g 59 j.2 junk :: rest) ?_ ?_
    · cases wb with
      | true =>
        refine T_cond_f rfl ?_
        repeat (first | refine pthen_normal ?_ | refine T_skip ?_)
        exact ⟨(lim, d), ⟨hlim, hd, permIn_refl _ _ _⟩, by repeat (first | exact Sub.nil | refine Sub.cons rfl ?_), fun w' hw => hw⟩
      | false =>
        refine T_cond_t rfl ?_
        repeat (first | refine T_seq ?_ | refine T_region ?_ | refine S_pure tabOk rfl ?_)
        refine S_call rfl Try.call80 (fun w1 h1 => (break_ok a b h1 hd hab hb hm).mono fun e w' ⟨d1, e1, p1, hd1, h2⟩ => ⟨_, _, e1, h2, ?_⟩)
        repeat (first | refine T_region ?_ | refine S_nil ?_ | refine S_i64 tabOk rfl (by omega) ?_ | refine S_pure tabOk rfl ?_)
        exact ⟨(lim - 1, d1), ⟨by dsimp only; omega, hd1, p1⟩, (by dsimp only; repeat (first | exact Sub.nil | refine Sub.cons rfl ?_ | refine Sub.cons_int rfl (by omega) ?_)), fun w' hw => hw⟩
    rintro ⟨lim1, d1⟩ ⟨hlim1, hd1, hP1⟩
    dsimp only at hlim1 hd1 hP1 ⊢
    repeat (first | refine T_seq ?_ | refine T_region ?_ | refine S_pure tabOk rfl ?_)
    refine S_call rfl Try.call81 (fun w1 h1 => (pivot_ok a b h1 hd1 (by omega) hb hm).mono fun e w' ⟨p0, t0, e1, hp1, hp2, h2⟩ => ⟨_, _, e1, h2, ?_⟩)
    clear e1
    repeat (first | refine T_seq ?_ | refine T_region ?_ | refine S_nil ?_ | refine S_pure tabOk rfl ?_)
    refine T_sub (l' := [(0, .slice (some ⟨g, 0, none⟩) n c), (1, .int .i64 (a : Int)), (2, .int .i64 (b : Int)), (3, .int .i64 (lim1 : Int)), (8, .bool wb), (9, .bool wp), (10, .int .i64 ((l : Nat) : Int)), (11, .int .i64 (p0 : Int)), (12, .int .i64 t0), (50, .bool (decide (t0 = 2)))]) (by repeat (first | exact Sub.nil | refine Sub.cons rfl ?_)) ?_
    refine T_cut (ι := SrR) (fun j => a ≤ j.p ∧ j.p < b ∧ j.d.size = n ∧ PermIn a b d j.d) (fun j => [(0, .slice (some ⟨g, 0, none⟩) n c), (1, .int .i64 (a : Int)), (2, .int .i64 (b : Int)), (3, .int .i64 (lim1 : Int)), (8, .bool wb), (9, .bool wp), (10, .int .i64 ((l : Nat) : Int)), (11, .int .i64 (j.p : Int)), (12, .int .i64 j.t)]) (fun j => uE g 59 j.d junk :: rest) ?_ ?_
    · refine T_cond_dec rfl (fun h2 => ?_) (fun h2 => ?_)
      rotate_left
      · repeat (first | refine pthen_normal ?_ | refine T_skip ?_)
        exact ⟨⟨p0, t0, d1⟩, ⟨hp1, hp2, hd1, hP1⟩, by repeat (first | exact Sub.nil | refine Sub.cons rfl ?_), fun w' hw => hw⟩
      repeat (first | refine T_seq ?_ | refine T_region ?_ | refine S_pure tabOk rfl ?_)
      refine S_call rfl Try.call82 (fun w1 h1 => (rev_ok a b h1 hd1 (by omega) hb (by omega)).mono fun e w' ⟨e1, h2, h3⟩ => ⟨_, _, e1, h2, ?_⟩)
      repeat (first | refine T_seq ?_ | refine T_region ?_ | refine S_nil ?_ | refine S_i64 tabOk rfl (by omega) ?_ | refine S_pure tabOk rfl ?_)
      exact ⟨⟨(b - 1) - (p0 - a), 1, reverseRange d1 a b⟩, ⟨by dsimp only; omega, by dsimp only; omega, h3, permIn_trans _ _ _ _ _ hP1 (reverseRange_holds d1 a b hab (by omega))⟩, (by dsimp only; repeat (first | exact Sub.nil | refine Sub.cons rfl ?_ | refine Sub.cons_int rfl (by omega) ?_)), fun w' hw => hw⟩
    clear hp1 hp2 hP1 hd1
    rintro ⟨p, t, d2⟩ ⟨hp1, hp2, hd2, hP2⟩
    dsimp only at hp1 hp2 hd2 hP2 ⊢
    have hB2 := below_perm hB (by omega) hP2
    repeat (first | refine T_seq ?_ | refine T_region ?_ | refine S_pure tabOk rfl ?_)
    refine S_cut (ι := Unit) (fun _ => True) (fun _ => [(0, .slice (some ⟨g, 0, none⟩) n c), (1, .int .i64 (a : Int)), (2, .int .i64 (b : Int)), (3, .int .i64 (lim1 : Int)), (8, .bool wb), (9, .bool wp), (10, .int .i64 ((l : Nat) : Int)), (11, .int .i64 (p : Int)), (68, .bool (wb && wp && decide (t = 1)))]) (fun _ => uE g 59 d2 junk :: rest) ?_ ?_
    · cases wb with
      | false =>
        repeat (first | refine S_nil ?_ | refine S_pure tabOk rfl ?_ | refine S_pass rfl rfl rfl ?_)
        exact ⟨(), trivial, by repeat (first | exact Sub.nil | refine Sub.cons rfl ?_), fun w' hw => hw⟩
      | true =>
        cases wp with
        | false =>
          repeat (first | refine S_nil ?_ | refine S_pure tabOk rfl ?_ | refine S_pass rfl rfl rfl ?_)
          exact ⟨(), trivial, by repeat (first | exact Sub.nil | refine Sub.cons rfl ?_), fun w' hw => hw⟩
        | true =>
          repeat (first | refine S_nil ?_ | refine S_pure tabOk rfl ?_)
          exact ⟨(), trivial, by repeat (first | exact Sub.nil | refine Sub.cons rfl ?_), fun w' hw => hw⟩
    rintro _ _
    refine T_cut (ι := Array Int) (fun j => j.size = n ∧ PermIn a b d j) (fun _ => [(0, .slice (some ⟨g, 0, none⟩) n c), (1, .int .i64 (a : Int)), (2, .int .i64 (b : Int)), (3, .int .i64 (lim1 : Int)), (8, .bool wb), (9, .bool wp), (10, .int .i64 ((l : Nat) : Int)), (11, .int .i64 (p : Int))]) (fun j => uE g 59 j junk :: rest) ?_ ?_
    · cases hq : (wb && wp && decide (t = 1)) with
      | false =>
        refine T_cond_f rfl ?_
        repeat (first | refine pthen_normal ?_ | refine T_skip ?_)
        exact ⟨d2, ⟨hd2, hP2⟩, by repeat (first | exact Sub.nil | refine Sub.cons rfl ?_), fun w' hw => hw⟩
      | true =>
        refine T_cond_t rfl ?_
        repeat (first | refine T_seq ?_ | refine T_region ?_ | refine S_pure tabOk rfl ?_)
        obtain ⟨q1, q2⟩ := partialInsertionSort_holds (lt := ltI) swoI d2 a b (by omega) (by omega) hB2
        refine S_call rfl Try.call83 (fun w1 h1 => (pins_ok a b h1 hd2 (by omega) hb (by omega)).mono fun e w' ⟨e1, h2, h3⟩ => ⟨_, _, e1, h2, ?_⟩)
        clear e1
        repeat (first | refine S_nil ?_)
        obtain ⟨X, hX⟩ : ∃ X, X = partialInsertionSort ltI d2 a b := ⟨_, rfl⟩
        rw [← hX] at q1 q2 h3 ⊢
        obtain ⟨Xd, Xb⟩ := X
        dsimp only at q1 q2 h3 ⊢
        cases Xb with
        | true =>
          refine T_cond_t rfl ?_
          repeat (first | refine inb_ret ?_ | refine pthen_ret ?_ | refine T_ret ?_)
          obtain ⟨c1, c2⟩ := hcont _ (permIn_trans _ _ _ _ _ hP2 q1) (q2 rfl)
          exact ret0 rfl (fun w' hw => ⟨_, rfl, c1, c2, h3, hw⟩)
        | false =>
          refine T_cond_f rfl ?_
          repeat (first | refine pthen_normal ?_ | refine T_skip ?_)
          exact ⟨Xd, ⟨h3, permIn_trans _ _ _ _ _ hP2 q1⟩, by repeat (first | exact Sub.nil | refine Sub.cons rfl ?_), fun w' hw => hw⟩
    clear hB2 hP2 hd2 d2
    rintro d3 ⟨hd3, hP3⟩
    have hB3 := below_perm hB (by omega) hP3
    repeat (first | refine T_seq ?_)
    refine T_cut (ι := Unit) (fun _ => True) (fun _ => [(0, .slice (some ⟨g, 0, none⟩) n c), (1, .int .i64 (a : Int)), (2, .int .i64 (b : Int)), (3, .int .i64 (lim1 : Int)), (8, .bool wb), (9, .bool wp), (10, .int .i64 ((l : Nat) : Int)), (11, .int .i64 (p : Int)), (87, .bool (decide (0 < a ∧ ltI d3[a - 1]! d3[p]! = false)))]) (fun _ => uE g 59 d3 junk :: rest) ?_ ?_
    · by_cases ha : 0 < a
      rotate_left
      · repeat (first | refine T_draw (by kernel_rfl) (by kernel_rfl) ?_ | refine D_pure tabOk rfl ?_)
        refine D_re 75 (v' := .bool false) rfl (congrArg Value.bool (decide_eq_false (by omega))) ?_
        repeat (first | refine D_all rfl ?_ | refine D_pure tabOk rfl ?_ | refine D_pass rfl rfl rfl ?_)
        refine ⟨(), trivial, ?_, fun w' hw => hw⟩
        rw [show decide (0 < a ∧ ltI d3[a - 1]! d3[p]! = false) = false from decide_eq_false (fun h => ha h.1)]
        repeat (first | exact Sub.nil | refine Sub.cons rfl ?_)
      cases hb2 : ltI d3[a - 1]! d3[p]! with
      | true =>
        repeat (first | refine T_draw (by kernel_rfl) (by kernel_rfl) ?_ | refine D_pure tabOk rfl ?_)
        refine D_re 75 (v' := .bool true) rfl (congrArg Value.bool (decide_eq_true (by omega))) ?_
        repeat (first | refine D_i64 tabOk rfl (by omega) ?_ | refine D_pure tabOk rfl ?_)
        refine D_q (Q_idx1 tabOk rfl rfl rfl rfl rfl rfl rfl (j := (a - 1)) (by omega) (by omega)) ?_
        refine D_load1 tabOk rfl rfl (v := .int .u64 d3[(a - 1)]!) (fun w' hw => blkc hw (uA_get (by omega))) ?_
        repeat (first | refine D_pure tabOk rfl ?_)
        refine D_q (Q_idx1 tabOk rfl rfl rfl rfl rfl rfl rfl (j := p) (by omega) (by omega)) ?_
        refine D_load1 tabOk rfl rfl (v := .int .u64 d3[p]!) (fun w' hw => blkc hw (uA_get (by omega))) ?_
        skip
        refine D_callx rfl Try.call84 (v := .bool true) (fun w' vs hw' h => by obtain ⟨u1, _, rfl, rfl, u2, _, rfl, rfl, rfl⟩ := h; exact less_b hb2 w') ?_
        repeat (first | refine D_all rfl ?_ | refine D_pure tabOk rfl ?_)
        refine ⟨(), trivial, ?_, fun w' hw => hw⟩
        rw [show decide (0 < a ∧ true = false) = false from decide_eq_false (fun h => by cases h.2)]
        repeat (first | exact Sub.nil | refine Sub.cons rfl ?_)
      | false =>
        repeat (first | refine T_draw (by kernel_rfl) (by kernel_rfl) ?_ | refine D_pure tabOk rfl ?_)
        refine D_re 75 (v' := .bool true) rfl (congrArg Value.bool (decide_eq_true (by omega))) ?_
        repeat (first | refine D_i64 tabOk rfl (by omega) ?_ | refine D_pure tabOk rfl ?_)
        refine D_q (Q_idx1 tabOk rfl rfl rfl rfl rfl rfl rfl (j := (a - 1)) (by omega) (by omega)) ?_
        refine D_load1 tabOk rfl rfl (v := .int .u64 d3[(a - 1)]!) (fun w' hw => blkc hw (uA_get (by omega))) ?_
        repeat (first | refine D_pure tabOk rfl ?_)
        refine D_q (Q_idx1 tabOk rfl rfl rfl rfl rfl rfl rfl (j := p) (by omega) (by omega)) ?_
        refine D_load1 tabOk rfl rfl (v := .int .u64 d3[p]!) (fun w' hw => blkc hw (uA_get (by omega))) ?_
        skip
        refine D_callx rfl Try.call84 (v := .bool false) (fun w' vs hw' h => by obtain ⟨u1, _, rfl, rfl, u2, _, rfl, rfl, rfl⟩ := h; exact less_b hb2 w') ?_
        repeat (first | refine D_all rfl ?_ | refine D_pure tabOk rfl ?_)
        refine ⟨(), trivial, ?_, fun w' hw => hw⟩
        rw [show decide (0 < a ∧ false = false) = true from decide_eq_true ⟨ha, rfl⟩]
        repeat (first | exact Sub.nil | refine Sub.cons rfl ?_)
    rintro _ _
    skip
    refine T_cond_dec rfl (fun he => ?_) (fun he => ?_)
    · repeat (first | refine T_seq ?_ | refine T_region ?_ | refine S_pure tabOk rfl ?_)
      refine S_call rfl Try.call85 (fun w1 h1 => (partEq_ok a b p h1 hd3 hp1 hp2 hb (by omega)).mono fun e w' ⟨e1, h2, h3⟩ => ⟨_, _, e1, h2, ?_⟩)
      clear e1
      obtain ⟨X, hX⟩ : ∃ X, X = partitionEqual ltI d3 a b p := ⟨_, rfl⟩
      obtain ⟨r1, r2, r3, r4, r5⟩ := round_eq (lt := ltI) swoI (partitionEqual_holds ltI) (d3 := d3) (d4 := X.2) (mid := X.1) he.1 hp1 hp2 (by omega) hB3 he.2 hX.symm
      rw [← hX] at h3 ⊢
      repeat (first | refine T_seq ?_ | refine T_region ?_ | refine S_nil ?_ | refine pthen_normal ?_ | refine inb_hit ?_ | refine pthen_exit ?_ | refine T_exit ?_ | refine S_pure tabOk rfl ?_)
      exact ⟨⟨X.1, b, lim1, wb, wp, X.2⟩, ⟨r2, hb, by dsimp only; omega, hlim1, h3, r4, fun R s1 s2 => by
        obtain ⟨s3, s4⟩ := r5 R s1 s2
        exact hcont R (permIn_trans _ _ _ _ _ hP3 s3) s4⟩, by repeat (first | exact Sub.nil | refine Sub.cons rfl ?_), fun w' hw => hw, by dsimp only; omega⟩
    repeat (first | refine T_seq ?_ | refine T_region ?_ | refine pthen_normal ?_ | refine T_skip ?_ | refine S_pure tabOk rfl ?_)
    refine S_call rfl Try.call86 (fun w1 h1 => (part_ok a b p h1 hd3 hp1 hp2 hb (by omega)).mono fun e w' ⟨e1, h2, h3⟩ => ⟨_, _, e1, h2, ?_⟩)
    clear e1
    obtain ⟨X, hX⟩ : ∃ X, X = partition ltI d3 a b p := ⟨_, rfl⟩
    rw [← hX] at h3 ⊢
    obtain ⟨m, al, d4⟩ := X
    obtain ⟨r1, r2, r3, r4, r5, r6, r7⟩ := round_part (lt := ltI) swoI (partition_holds ltI) (d3 := d3) (d4 := d4) (mid := m) (ap := al) hp1 hp2 (by omega) hB3 hX.symm
    dsimp only at h3 ⊢
    repeat (first | refine T_seq ?_ | refine T_region ?_ | refine S_nil ?_ | refine S_i64 tabOk rfl (by omega) ?_ | refine S_pure tabOk rfl ?_)
    refine S_re 109 (v' := .int .i64 ((l : Nat) : Int)) rfl rfl ?_
    refine S_q (Q_quo0 rfl rfl rfl (by omega) (by omega) (fun e h1 h2 => IntWalk.i64_in _ (by omega))) ?_
    repeat (first | refine T_seq ?_ | refine T_region ?_ | refine S_nil ?_ | refine S_pure tabOk rfl ?_)
    refine T_cond_dec rfl (fun hlt => ?_) (fun hlt => ?_)
    · repeat (first | refine T_seq ?_ | refine T_region ?_ | refine S_nil ?_ | refine S_pure tabOk rfl ?_)
      refine S_call rfl Try.call76 (fun w1 h1 => (pdq_ok junk rest g c n hm N a m lim1 (by omega) h1 h3 r1 (by omega) hlim1 r4).mono fun e w' ⟨L, e1, q1, q2, q3, h2⟩ => ⟨_, _, e1, h2, ?_⟩)
      obtain ⟨u1, u2⟩ := r6 L q1 q2
      repeat (first | refine S_nil ?_ | refine pthen_normal ?_ | refine inb_normal ?_ | refine S_i64 tabOk rfl (by omega) ?_ | refine S_pure tabOk rfl ?_ | refine T_region_any ?_)
      refine ⟨⟨m + 1, b, lim1, _, al, L⟩, ⟨by dsimp only; omega, hb, by dsimp only; omega, hlim1, q3, u1, fun R s1 s2 => ?_⟩, (by dsimp only; repeat (first | exact Sub.nil | refine Sub.cons rfl ?_)), fun w' hw => hw, by dsimp only; omega⟩
      obtain ⟨s3, s4⟩ := u2 R s1 s2
      exact hcont R (permIn_trans _ _ _ _ _ hP3 s3) s4
    · repeat (first | refine T_seq ?_ | refine T_region ?_ | refine S_nil ?_ | refine S_i64 tabOk rfl (by omega) ?_ | refine S_pure tabOk rfl ?_)
      refine S_call rfl Try.call76 (fun w1 h1 => (pdq_ok junk rest g c n hm N (m + 1) b lim1 (by omega) h1 h3 (by omega) hb hlim1 r5).mono fun e w' ⟨L, e1, q1, q2, q3, h2⟩ => ⟨_, _, e1, h2, ?_⟩)
      obtain ⟨u1, u2⟩ := r7 L q1 q2
      repeat (first | refine S_nil ?_ | refine pthen_normal ?_ | refine inb_normal ?_ | refine S_pure tabOk rfl ?_ | refine T_region_any ?_)
      refine ⟨⟨a, m, lim1, _, al, L⟩, ⟨r1, by dsimp only; omega, by dsimp only; omega, hlim1, q3, u1, fun R s1 s2 => ?_⟩, (by dsimp only; repeat (first | exact Sub.nil | refine Sub.cons rfl ?_)), fun w' hw => hw, by dsimp only; omega⟩
      obtain ⟨s3, s4⟩ := u2 R s1 s2
      exact hcont R (permIn_trans _ _ _ _ _ hP3 s3) s4
theorem sort_ok {w0 w : World} {g c n : Nat} {d0 : Array Int} {junk : List Value} {rest : OL} (h : Hp w0 w (uE g 59 d0 junk :: rest)) (hn : d0.size = n) (hm : n ≤ 65535) : Calls Try.prog 69 #[.slice (some ⟨g, 0, none⟩) n c] w fun e w' => ∃ d, e = .returned (.tuple #[]) ∧ PermIn 0 n d0 d ∧ SortedIn ltI 0 n d ∧ d.size = n ∧ Hp w0 w' (uE g 59 d junk :: rest) := by
  refine enterW1 Try.func69 rfl rfl h ?_
  repeat (first | refine T_seq ?_ | refine T_region ?_ | refine S_nil ?_ | refine S_u64 tabOk rfl (by omega) ?_ | refine S_pure tabOk rfl ?_ | refine T_region_any ?_)
  refine S_callE (fun v => ∃ L : Nat, v = .int .i64 (L : Int) ∧ L ≤ 16) rfl Try.call77 (fun w1 h1 => (len_ok (x := (n : Int)) ⟨by omega, by omega⟩ w1).mono fun e w' ⟨L, e1, e2, e3, e4⟩ => ⟨_, e1, e4, L, rfl, e2⟩) (fun v hv => ?_)
  obtain ⟨L, rfl, h1⟩ := hv
  skip
  refine S_call rfl Try.call76 (fun w1 h1 => (pdq_ok junk rest g c n hm (n + 1) 0 n L (by omega) h1 hn (by omega) (by omega) (by omega) (.inl rfl)).mono fun e w' ⟨d, e1, q1, q2, q3, h2⟩ => ⟨_, _, e1, h2, ?_⟩)
  repeat (first | refine S_nil ?_)
  exact ret0n rfl (fun w' hw => ⟨d, rfl, q1, q2, q3, hw⟩)
theorem ins0_ok (A : Option Addr) (c : Nat) (w : World) : Calls Try.prog 78 #[.slice A 0 c, .int .i64 0, .int .i64 0] w fun e w' => e = .returned (.tuple #[]) ∧ Below w.heap.size w w' := by
  refine enter3 Try.func78 rfl rfl (Hp.refl w) ?_
  repeat (first | refine T_seq ?_ | refine T_region ?_ | refine T_block ?_ | refine S_nil ?_ | refine S_i64 tabOk rfl (by omega) ?_ | refine S_pure tabOk rfl ?_)
  refine T_loop (ι := Unit) (fun _ => [(2, .int .i64 0), (6, .int .i64 1)]) (fun _ => []) (fun _ => True) (fun _ => 0) () trivial (by repeat (first | exact Sub.nil | refine Sub.cons rfl ?_)) (fun w' hw => hw) ?_
  rintro _ _
  repeat (first | refine T_seq ?_ | refine T_region ?_ | refine S_nil ?_ | refine S_pure tabOk rfl ?_)
  refine T_cond_dec rfl (fun h => absurd h (by decide)) (fun _ => ?_)
  repeat (first | refine inb_hit ?_ | refine pthen_exit ?_ | refine T_exit ?_)
  exact ret0n rfl (fun w' hw => ⟨rfl, hw.below (by repeat (first | exact new_nil))⟩)
theorem sort0_ok (A : Option Addr) (c : Nat) (w : World) : Calls Try.prog 69 #[.slice A 0 c] w fun e w' => e = .returned (.tuple #[]) ∧ Below w.heap.size w w' := by
  refine enter1 Try.func69 rfl rfl (Hp.refl w) ?_
  repeat (first | refine T_seq ?_ | refine T_region ?_ | refine S_nil ?_ | refine S_u64 tabOk rfl (by omega) ?_ | refine S_pure tabOk rfl ?_ | refine T_region_any ?_)
  refine S_callE (fun v => ∃ L : Nat, v = .int .i64 (L : Int) ∧ L ≤ 16) rfl Try.call77 (fun w1 h1 => (len_ok (x := 0) ⟨by omega, by omega⟩ w1).mono fun e w' ⟨L, e1, e2, e3, e4⟩ => ⟨_, e1, e4, L, rfl, e2⟩) (fun v hv => ?_)
  obtain ⟨L, rfl, h1⟩ := hv
  skip
  refine S_callq (v := .tuple #[]) rfl Try.call76 (fun w1 h1 => ?_) ?_
  · refine enter4 Try.func76 rfl rfl (Hp.refl w1) ?_
    repeat (first | refine T_seq ?_ | refine T_region ?_ | refine T_block ?_ | refine S_nil ?_ | refine S_pure tabOk rfl ?_)
    refine T_loop (ι := Unit) (fun _ => [(0, .slice A 0 c), (1, .int .i64 0), (2, .int .i64 0)]) (fun _ => []) (fun _ => True) (fun _ => 0) () trivial (by repeat (first | exact Sub.nil | refine Sub.cons rfl ?_)) (fun w' hw => hw) ?_
    rintro _ _
    repeat (first | refine T_seq ?_ | refine T_region ?_ | refine T_block ?_ | refine S_nil ?_ | refine S_i64 tabOk rfl (by omega) ?_ | refine S_pure tabOk rfl ?_)
    refine T_cond_dec rfl (fun _ => ?_) (fun h => absurd (by decide) h)
    repeat (first | refine T_seq ?_ | refine T_region ?_ | refine S_pure tabOk rfl ?_)
    refine S_callq (v := .tuple #[]) rfl Try.call78 (fun w1 h1 => ins0_ok A c w1) ?_
    repeat (first | refine S_nil ?_ | refine inb_ret ?_ | refine pthen_ret ?_ | refine T_ret ?_)
    exact ret0 rfl (fun w' hw => ⟨rfl, hw.below (by repeat (first | exact new_nil))⟩)
  repeat (first | refine S_nil ?_)
  exact ret0n rfl (fun w' hw => ⟨rfl, hw.below (by repeat (first | exact new_nil))⟩)
/-- What a sorted list of numbers is: rising. -/
theorem sorted_list {d : Array Int} (h : SortedIn ltI 0 d.size d) : d.toList.Pairwise (· ≤ ·) := by
  rw [List.pairwise_iff_getElem]
  intro i j hi hj hij
  have h1 := h i j (Nat.zero_le _) hij (by simpa using hj)
  have e1 : d[i]! = d.toList[i] := by rw [Array.getElem!_eq_getD, Array.getD_eq_getD_getElem?, ← Array.getElem?_toList, List.getElem?_eq_getElem hi]; rfl
  have e2 : d[j]! = d.toList[j] := by rw [Array.getElem!_eq_getD, Array.getD_eq_getD_getElem?, ← Array.getElem?_toList, List.getElem?_eq_getElem hj]; rfl
  rw [e1, e2] at h1
  have := of_decide_eq_false h1
  omega
theorem perm_list {d d' : Array Int} (h : PermIn 0 d.size d d') : d'.toList.Perm d.toList := by
  obtain ⟨h1, _, h2⟩ := h
  have e1 : (d'.extract 0 d.size) = d' := by rw [← h1]; simp
  have e2 : (d.extract 0 d.size) = d := by simp
  rwa [e1, e2] at h2
end Go.Proofs.Yteogkadjambmkaa
