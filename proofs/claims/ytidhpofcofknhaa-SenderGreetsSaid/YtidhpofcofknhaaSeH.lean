/-
  The law SenderGreets: its walk. Conditions: each theorem's own.
-/
import Derived.Test.YtidhpofcofknhaaSeF
namespace Go.Proofs.Ytidhpofcofknhaa
open Go Go.RowKit
set_option linter.unusedVariables false

theorem rcv_begin {s : SdS} {x : Fm} {rl : List Run} (h1 : knP s x) (h2 : x.k = 2 ∧ (s.inc < x.inc ∨ s.op = false)) : s.rcv x rl = s.begin_ true x.inc x.lim := by
  unfold SdS.rcv
  rw [if_pos h1, if_pos h2]
  rfl
theorem rcv_close {s : SdS} {x : Fm} {rl : List Run} (h1 : knP s x) (h2 : x.k ≠ 2) (h3 : s.inc < x.inc) : s.rcv x rl = s.begin_ false x.inc 0 := by
  unfold SdS.rcv
  rw [if_pos h1, if_neg (fun h => h2 h.1), if_pos h3]
  rfl
theorem tick_off {s : SdS} {now : Int} {ql : List (Int × Int)} (h : s.op = false) (hg : s.gs = []) : s.tick now ql = s.try_ now := by
  unfold SdS.tick
  rw [if_neg (by rw [h]; decide)]
  unfold SdS.keep_
  rw [hg]
  show SdS.try_ { s with gs := [] } now = _
  rw [← hg]
theorem told_off {s : SdS} {now : Int} {ql : List (Int × Int)} (h : s.op = false) : s.told now ql = if s.tm ≤ now then [(1, [])] else [] := by
  unfold SdS.told
  rw [if_neg (by rw [h]; decide)]
theorem tick_idle {s : SdS} {now : Int} (ho : s.op = true) (hg : s.gs = []) : s.tick now [] = s.calm_ ∧ s.told now [] = [] := by
  obtain ⟨f, m, p, q, ep, op, inc, lim, tm, tr, gs, last⟩ := s
  dsimp only at ho hg
  subst ho hg
  exact ⟨rfl, rfl⟩
set_option maxHeartbeats 8000000 in
theorem senderGreets_walk (a b n k : Int) (yes : Bool) (Wd : World) (ha : Fits .u16 a) (hb : Fits .u16 b) (hn : Fits .u16 n) (hk : Fits .u8 k) :
    Calls Try.prog 5 #[.int .u16 a, .int .u16 b, .int .u16 n, .int .u8 k, .bool yes] Wd fun e W' => e = .returned (.bool true) ∧ Below Wd.heap.size Wd W' := by
  have ha' := fits_u16 ha
  have hb' := fits_u16 hb
  have hn' := fits_u16 hn
  have hk' := fits_u8 hk
  obtain ⟨f, hf⟩ : ∃ f, f = 1 + a % 20 := ⟨_, rfl⟩
  obtain ⟨m, hm⟩ : ∃ m, m = 1 + a % 20 + b % 200 := ⟨_, rfl⟩
  have hp : PR f m := ⟨by omega, by omega, by omega⟩
  refine enter5 Try.func5 rfl rfl (Hp.refl Wd) ?_
  repeat (first | refine T_seq ?_ | refine T_region ?_ | refine S_nil ?_ | refine S_pure tabOk rfl ?_)
  refine S_callq (v := .bool true) rfl Try.call21 (fun w1 h1 => awake14_ok w1) ?_
  repeat (first | refine S_nil ?_ | refine S_pure tabOk rfl ?_)
  refine T_cond_f rfl ?_
  repeat (first | refine T_seq ?_ | refine T_region ?_ | refine pthen_normal ?_ | refine T_skip ?_ | refine S_pure tabOk rfl ?_)
  refine S_callq (v := .agg #[.int .i64 f, .int .i64 m, .int .i64 4, .int .i64 10]) rfl Try.call22 (fun w1 h1 => by rw [hf, hm]; exact conf14_ok a b 3 9 ha hb (by decide) (by decide) w1) ?_
  refine S_new tabOk rfl (fun b11 hb11 => ?_)
  repeat (first | refine T_seq ?_ | refine T_region ?_ | refine S_nil ?_ | refine S_load tabOk 0 rfl rfl rfl ?_ | refine S_store tabOk 0 rfl rfl rfl rfl rfl rfl ?_)
  refine S_snew ⟨⟨hp, by decide, by decide, by decide, by decide⟩, by decide⟩ (by decide) rfl (fun sb F0 hN0 => ?_)
  repeat (first | refine T_seq ?_ | refine T_region ?_ | refine S_nil ?_ | refine S_pure tabOk rfl ?_)
  refine T_cond_f rfl ?_
  repeat (first | refine T_seq ?_ | refine T_region ?_ | refine T_block ?_ | refine S_nil ?_ | refine pthen_normal ?_ | refine T_skip ?_ | refine S_pure tabOk rfl ?_)
  refine T_loop (ι := Nat × Int × Nat × (Nat → Prop)) (fun j => [(2, .int .u16 n), (3, .int .u8 k), (4, .bool yes), (11, .pointer (some ⟨b11, 0, none⟩)), (12, bptr sb), (14, .int .i64 j.2.1), (15, .int .i64 (j.2.2.1 : Int)), (16, .int .i64 (j.1 : Int))])
    (fun j => [.rep (fun w => (seA sb ⟨f, m, 4, 10, 7, false, 0, 0, j.2.1, (j.2.2.1 : Int), [], 0⟩).at_ w j.2.2.2 (.bool true)) j.2.2.2 true, .blk b11 (.cells ⟨[.int .i64 f, .int .i64 m, .int .i64 4, .int .i64 10]⟩ 61 (0, 0)) true])
    (fun j => (j.1 : Int) ≤ n % 300 ∧ (j.1 : Int) ≤ j.2.1 ∧ j.2.1 ≤ 600 ∧ j.2.2.1 ≤ j.1 ∧ ∀ k, j.2.2.2 k → Wd.heap.size ≤ k) (fun j => 300 - j.1) (0, 0, 0, F0) ⟨by show (0 : Int) ≤ n % 300; omega, Int.le_refl _, (show (0 : Int) ≤ 600 by decide), Nat.le_refl _, hN0⟩ (by repeat (first | exact Sub.nil | refine Sub.cons rfl ?_)) (fun w' hw => hw) ?_
  rintro ⟨i, nx, tr, F1⟩ ⟨hi, hnx, hnx2, htr, hN1⟩
  dsimp only at hi hnx hnx2 htr hN1 ⊢
  repeat (first | refine T_seq ?_ | refine T_region ?_ | refine S_pure tabOk rfl ?_)
  refine S_q (Q_rem0 rfl rfl rfl (by decide) hn'.1) ?_
  repeat (first | refine S_nil ?_ | refine S_i64 tabOk rfl (by omega) ?_ | refine S_pure tabOk rfl ?_)
  refine T_cond_dec rfl (fun hlt => ?_) (fun hge => ?_)
  · have hW := W_pos hp.1 hp.2.1 tr
    by_cases he : (i : Int) = nx
    · subst he
      repeat (first | refine T_seq ?_ | refine T_region ?_ | refine T_block ?_ | refine pthen_normal ?_ | refine T_skip ?_ | refine S_pure tabOk rfl ?_)
      refine S_tick1 0 [] rfl rfl hN1 (fun w1 g1 => QArg.nil) (by omega) (fun x h => by cases h) (Nat.zero_le _) (by show 0 + 0 < 59999; decide) (by show (0 : Int) + ((0 : Nat) : Int) + 1 ≤ 1099511627776; decide) (fun g h => by cases h) (by show (tr : Int) < 1099511627776; omega) (show SdS.told ⟨f, m, 4, 10, 7, false, 0, 0, i, (tr : Int), [], 0⟩ i [] = [(1, [])] from by
        rw [told_off rfl, if_pos (show (i : Int) ≤ (i : Int) by omega)]) (fun b1 o1 c1 x1 F2 G2 hF2 hG2 => ⟨_, rfl, ?_⟩)
      rw [show SdS.tick ⟨f, m, 4, 10, 7, false, 0, 0, i, (tr : Int), [], 0⟩ i [] = ⟨f, m, 4, 10, 7, false, 0, 0, i + W f m tr, (tr : Int) + 1, [], 0⟩ from by
        rw [tick_off rfl rfl]
        unfold SdS.try_
        rw [if_pos (show (i : Int) ≤ (i : Int) by omega)]
        rfl]
      repeat (first | refine T_seq ?_ | refine T_region ?_ | refine S_nil ?_ | refine S_pure tabOk rfl ?_)
      refine S_re 51 (v' := .bool true) rfl (congrArg Value.bool (decide_eq_true rfl)) ?_
      refine S_re 48 (v' := .bool true) rfl rfl ?_
      refine S_q (Q_neb tabOk rfl rfl rfl rfl rfl) ?_
      repeat (first | refine S_pure tabOk rfl ?_)
      refine S_callq (v := .bool false) rfl Try.call29 (fun w1 g1 => se_isopen (g1.own _ (getE_mem (i := 1) rfl)).1) ?_
      repeat (first | refine S_nil ?_ | refine S_pure tabOk rfl ?_)
      refine T_cond_f rfl ?_
      repeat (first | refine T_seq ?_ | refine T_region ?_ | refine S_nil ?_ | refine pthen_normal ?_ | refine T_skip ?_ | refine S_pure tabOk rfl ?_)
      refine T_cond_dec rfl (fun _ => ?_) (fun h => absurd rfl h)
      repeat (first | refine T_seq ?_ | refine T_region ?_ | refine S_pure tabOk rfl ?_ | refine S_load tabOk 2 rfl rfl rfl ?_)
      refine S_callq (v := .int .i64 (W f m tr)) rfl Try.call26 (fun w1 g1 => wait_w f m tr w1 hp.1 hp.2.2 hp.2.1) ?_
      repeat (first | refine T_region ?_ | refine S_nil ?_ | refine pthen_normal ?_ | refine inb_normal ?_ | refine S_i64 tabOk rfl (by omega) ?_ | refine S_pure tabOk rfl ?_ | refine T_region_any ?_)
      exact ⟨(i + 1, i + W f m tr, tr + 1, G2), ⟨by show ((i + 1 : Nat) : Int) ≤ n % 300; omega, by show ((i + 1 : Nat) : Int) ≤ (i : Int) + W f m tr; omega, by show (i : Int) + W f m tr ≤ 600; omega, by show tr + 1 ≤ i + 1; omega, hG2⟩, (by repeat (first | exact Sub.nil | refine Sub.cons rfl ?_)), fun w' hw => hw.less (by repeat (first | exact Less.nil | refine Less.keep ?_ | refine Less.dropR ?_)), by show 300 - (i + 1) < 300 - i; omega⟩
    · repeat (first | refine T_seq ?_ | refine T_region ?_ | refine T_block ?_ | refine pthen_normal ?_ | refine T_skip ?_ | refine S_pure tabOk rfl ?_)
      refine S_tick0 0 [] rfl rfl hN1 (fun w1 g1 => QArg.nil) (by omega) (fun x h => by cases h) (Nat.zero_le _) (by show 0 + 0 < 59999; decide) (by show (0 : Int) + ((0 : Nat) : Int) + 1 ≤ 1099511627776; decide) (fun g h => by cases h) (by show (tr : Int) < 1099511627776; omega) (show SdS.told ⟨f, m, 4, 10, 7, false, 0, 0, nx, (tr : Int), [], 0⟩ i [] = [] from by
        rw [told_off rfl, if_neg (show ¬ nx ≤ (i : Int) by omega)]) (fun a1 c1 G2 hG2 => ⟨_, rfl, ?_⟩)
      rw [show SdS.tick ⟨f, m, 4, 10, 7, false, 0, 0, nx, (tr : Int), [], 0⟩ i [] = ⟨f, m, 4, 10, 7, false, 0, 0, nx, (tr : Int), [], 0⟩ from by
        rw [tick_off rfl rfl]
        unfold SdS.try_
        rw [if_neg (show ¬ nx ≤ (i : Int) by omega)]]
      repeat (first | refine T_seq ?_ | refine T_region ?_ | refine S_nil ?_ | refine S_pure tabOk rfl ?_)
      refine S_re 51 (v' := .bool false) rfl (congrArg Value.bool (decide_eq_false he)) ?_
      refine S_re 48 (v' := .bool false) rfl rfl ?_
      refine S_q (Q_neb tabOk rfl rfl rfl rfl rfl) ?_
      repeat (first | refine S_pure tabOk rfl ?_)
      refine S_callq (v := .bool false) rfl Try.call29 (fun w1 g1 => se_isopen (g1.own _ (getE_mem (i := 0) rfl)).1) ?_
      repeat (first | refine S_nil ?_ | refine S_pure tabOk rfl ?_)
      refine T_cond_f rfl ?_
      repeat (first | refine T_seq ?_ | refine T_region ?_ | refine S_nil ?_ | refine pthen_normal ?_ | refine T_skip ?_ | refine S_pure tabOk rfl ?_)
      refine T_cond_dec rfl (fun h => absurd h he) (fun _ => ?_)
      repeat (first | refine T_region ?_ | refine S_nil ?_ | refine pthen_normal ?_ | refine inb_normal ?_ | refine T_skip ?_ | refine S_i64 tabOk rfl (by omega) ?_ | refine S_pure tabOk rfl ?_)
      exact ⟨(i + 1, nx, tr, G2), ⟨by show ((i + 1 : Nat) : Int) ≤ n % 300; omega, by show ((i + 1 : Nat) : Int) ≤ nx; omega, hnx2, by show tr ≤ i + 1; omega, hG2⟩, (by repeat (first | exact Sub.nil | refine Sub.cons rfl ?_)), fun w' hw => hw.less (by repeat (first | exact Less.nil | refine Less.keep ?_)), by show 300 - (i + 1) < 300 - i; omega⟩
  repeat (first | refine T_seq ?_ | refine T_region ?_ | refine pthen_normal ?_ | refine inb_hit ?_ | refine pthen_exit ?_ | refine T_exit ?_ | refine S_u64 tabOk rfl (by omega) ?_ | refine S_pure tabOk rfl ?_ | refine S_q (Q_build tabOk rfl rfl rfl rfl rfl rfl rfl) ?_)
  refine S_recv 0 ⟨2, 0, 7, 1 + k, 0, 0, 5, none, 0, 0, none, 0, 0⟩ [] rfl rfl hN1 (fun w1 g1 => ⟨fun _ => False, SlR.nil_, fun k h => h.elim⟩) (Nat.zero_le _) (show Fits .u64 0 by decide) (mk_u64 (n := 1 + k) (by omega)) (show Fits .u64 5 by decide) (fun a2 n2 c2 F2 G2 hF2 hG2 => ⟨_, rfl, ?_⟩)
  have hk1 : knP ⟨f, m, 4, 10, 7, false, 0, 0, nx, (tr : Int), [], 0⟩ ⟨2, 0, 7, 1 + k, 0, 0, 5, none, 0, 0, none, 0, 0⟩ := ⟨.inl rfl, rfl, by show (0 : Int) ≤ 1 + k; omega⟩
  rw [rcv_begin hk1 ⟨rfl, .inr rfl⟩, decide_eq_true hk1, show SdS.begin_ ⟨f, m, 4, 10, 7, false, 0, 0, nx, (tr : Int), [], 0⟩ true (1 + k) 5 = ⟨f, m, 4, 10, 7, true, 1 + k, 5, 0, 0, [], 0⟩ from rfl]
  repeat (first | refine S_pure tabOk rfl ?_)
  refine S_new tabOk rfl (fun b18 hb18 => ?_)
  repeat (first | refine T_seq ?_ | refine T_region ?_ | refine S_nil ?_ | refine S_pure tabOk rfl ?_ | refine S_store tabOk 0 rfl rfl rfl rfl rfl rfl ?_)
  refine S_callq (v := .bool true) rfl Try.call29 (fun w1 g1 => se_isopen (g1.own _ (getE_mem (i := 2) rfl)).1) ?_
  repeat (first | refine S_pure tabOk rfl ?_)
  have hidle := fun now => tick_idle (s := ⟨f, m, 4, 10, 7, true, 1 + k, 5, 0, 0, [], 0⟩) (now := now) rfl rfl
  refine S_tick0 2 [] rfl rfl hG2 (fun w1 g1 => QArg.nil) (by omega) (fun x h => by cases h) (Nat.zero_le _) (by show 0 + 0 < 59999; decide) (by show (0 : Int) + ((0 : Nat) : Int) + 1 ≤ 1099511627776; decide) (fun g h => by cases h) (show (0 : Int) < 1099511627776 by decide) (hidle _).2 (fun a3 c3 G3 hG3 => ⟨_, rfl, ?_⟩)
  rw [(hidle _).1, show SdS.calm_ ⟨f, m, 4, 10, 7, true, 1 + k, 5, 0, 0, [], 0⟩ = ⟨f, m, 4, 10, 7, true, 1 + k, 5, 0, 0, [], 0⟩ from rfl]
  repeat (first | refine S_i64 tabOk rfl (by omega) ?_ | refine S_pure tabOk rfl ?_)
  refine S_tick0 2 [] rfl rfl hG3 (fun w1 g1 => QArg.nil) (by omega) (fun x h => by cases h) (Nat.zero_le _) (by show 0 + 0 < 59999; decide) (by show (0 : Int) + ((0 : Nat) : Int) + 1 ≤ 1099511627776; decide) (fun g h => by cases h) (show (0 : Int) < 1099511627776 by decide) (hidle _).2 (fun a4 c4 G4 hG4 => ⟨_, rfl, ?_⟩)
  rw [(hidle _).1, show SdS.calm_ ⟨f, m, 4, 10, 7, true, 1 + k, 5, 0, 0, [], 0⟩ = ⟨f, m, 4, 10, 7, true, 1 + k, 5, 0, 0, [], 0⟩ from rfl]
  repeat (first | refine S_nil ?_ | refine S_pure tabOk rfl ?_)
  refine T_cond_f rfl ?_
  repeat (first | refine T_seq ?_ | refine T_region ?_ | refine S_nil ?_ | refine pthen_normal ?_ | refine T_skip ?_ | refine S_i64 tabOk rfl (by omega) ?_ | refine S_u64 tabOk rfl (by omega) ?_ | refine S_pure tabOk rfl ?_ | refine S_q (Q_build tabOk rfl rfl rfl rfl rfl rfl rfl) ?_)
  refine S_new tabOk rfl (fun b20 hb20 => ?_)
  repeat (first | refine T_seq ?_ | refine T_region ?_ | refine S_nil ?_ | refine S_pure tabOk rfl ?_ | refine S_store tabOk 0 rfl rfl rfl rfl rfl rfl ?_)
  have hk2 : ∀ kd : Int, kd = 2 ∨ kd = 4 → knP ⟨f, m, 4, 10, 7, true, 1 + k, 5, 0, 0, [], 0⟩ ⟨kd, 0, 7, 2 + k, 0, 0, 5, none, 0, 0, none, 0, 0⟩ := fun kd h => ⟨h.imp id fun h => ⟨h, rfl⟩, rfl, by show (1 : Int) + k ≤ 2 + k; omega⟩
  cases yes with
  | true =>
    refine T_cond_f rfl ?_
    repeat (first | refine T_seq ?_ | refine T_region ?_ | refine pthen_normal ?_ | refine T_skip ?_ | refine S_pure tabOk rfl ?_ | refine S_load tabOk 0 rfl rfl rfl ?_)
    refine S_recv 3 ⟨4, 0, 7, 2 + k, 0, 0, 5, none, 0, 0, none, 0, 0⟩ [] rfl rfl hG4 (fun w1 g1 => ⟨fun _ => False, SlR.nil_, fun k h => h.elim⟩) (Nat.zero_le _) (show Fits .u64 0 by decide) (mk_u64 (n := 2 + k) (by omega)) (show Fits .u64 5 by decide) (fun a5 n5 c5 F5 G5 hF5 hG5 => ⟨_, rfl, ?_⟩)
    rw [(rcv_close (hk2 4 (.inr rfl)) (show (4 : Int) ≠ 2 by decide) (show 1 + k < 2 + k by omega)), decide_eq_true (hk2 4 (.inr rfl)), show SdS.begin_ ⟨f, m, 4, 10, 7, true, 1 + k, 5, 0, 0, [], 0⟩ false (2 + k) 0 = ⟨f, m, 4, 10, 7, false, 2 + k, 0, 0, 0, [], 0⟩ from rfl]
    repeat (first | refine S_pure tabOk rfl ?_)
    refine S_new tabOk rfl (fun b21 hb21 => ?_)
    repeat (first | refine T_seq ?_ | refine T_region ?_ | refine S_nil ?_ | refine S_pure tabOk rfl ?_ | refine S_store tabOk 0 rfl rfl rfl rfl rfl rfl ?_)

    refine S_tick1 5 [] rfl rfl hG5 (fun w1 g1 => QArg.nil) (by omega) (fun x h => by cases h) (Nat.zero_le _) (by show 0 + 0 < 59999; decide) (by show (0 : Int) + ((0 : Nat) : Int) + 1 ≤ 1099511627776; decide) (fun g h => by cases h) (show (0 : Int) < 1099511627776 by decide) (show SdS.told ⟨f, m, 4, 10, 7, false, 2 + k, 0, 0, 0, [], 0⟩ (i + 999) [] = [(1, [])] from by
      rw [told_off rfl, if_pos (show (0 : Int) ≤ (i : Int) + 999 by omega)]) (fun b1 o1 c1 x1 F6 G6 hF6 hG6 => ⟨_, rfl, ?_⟩)
    rw [show SdS.tick ⟨f, m, 4, 10, 7, false, 2 + k, 0, 0, 0, [], 0⟩ (i + 999) [] = ⟨f, m, 4, 10, 7, false, 2 + k, 0, i + 999 + W f m 0, 1, [], 0⟩ from by
      rw [tick_off rfl rfl]
      unfold SdS.try_
      rw [if_pos (show (0 : Int) ≤ (i : Int) + 999 by omega)]
      rfl]
    repeat (first | refine T_seq ?_ | refine T_region ?_ | refine S_nil ?_ | refine S_pure tabOk rfl ?_)
    refine S_callq (v := .bool false) rfl Try.call29 (fun w1 g1 => se_isopen (g1.own _ (getE_mem (i := 6) rfl)).1) ?_
    repeat (first | refine S_pure tabOk rfl ?_)
    refine S_q (Q_neb tabOk rfl rfl rfl rfl rfl) ?_
    repeat (first | refine S_pure tabOk rfl ?_)
    refine S_re 134 (v' := .bool true) rfl rfl ?_
    refine S_q (Q_eqb tabOk rfl rfl rfl rfl rfl) ?_
    repeat (first | refine S_pure tabOk rfl ?_)
    refine S_callq (v := .int .u64 (2 + k)) rfl Try.call30 (fun w1 g1 => se_inc (g1.own _ (getE_mem (i := 6) rfl)).1) ?_
    repeat (first | refine S_u64 tabOk rfl (by omega) ?_ | refine S_pure tabOk rfl ?_)
    refine S_re 146 (v' := .bool true) rfl (congrArg Value.bool (decide_eq_true rfl)) ?_
    repeat (first | refine S_pure tabOk rfl ?_)
    refine S_callq (v := .int .u64 0) rfl Try.call31 (fun w1 g1 => se_lim (g1.own _ (getE_mem (i := 6) rfl)).1) ?_
    repeat (first | refine S_pure tabOk rfl ?_)
    refine S_re 149 (v' := .bool true) rfl rfl ?_
    refine S_q (Q_eqb tabOk rfl rfl rfl rfl rfl) ?_
    repeat (first | refine S_nil ?_ | refine T_ret ?_ | refine S_pure tabOk rfl ?_)
    exact ret1 rfl rfl (fun w' hw => ⟨rfl, hw.below (by repeat (first | exact new_nil | refine new_ro ?_ | refine new_rx (by assumption) ?_ | refine new_cons (by first | assumption | omega) ?_))⟩)

  | false =>
    refine T_cond_t rfl ?_
    repeat (first | refine T_seq ?_ | refine T_region ?_ | refine S_nil ?_ | refine S_pure tabOk rfl ?_ | refine S_load tabOk 0 rfl rfl rfl ?_ | refine S_store tabOk 0 rfl rfl rfl rfl rfl rfl ?_)
    refine S_recv 3 ⟨2, 0, 7, 2 + k, 0, 0, 5, none, 0, 0, none, 0, 0⟩ [] rfl rfl hG4 (fun w1 g1 => ⟨fun _ => False, SlR.nil_, fun k h => h.elim⟩) (Nat.zero_le _) (show Fits .u64 0 by decide) (mk_u64 (n := 2 + k) (by omega)) (show Fits .u64 5 by decide) (fun a5 n5 c5 F5 G5 hF5 hG5 => ⟨_, rfl, ?_⟩)
    rw [(rcv_begin (hk2 2 (.inl rfl)) ⟨rfl, .inl (show 1 + k < 2 + k by omega)⟩), decide_eq_true (hk2 2 (.inl rfl)), show SdS.begin_ ⟨f, m, 4, 10, 7, true, 1 + k, 5, 0, 0, [], 0⟩ true (2 + k) 5 = ⟨f, m, 4, 10, 7, true, 2 + k, 5, 0, 0, [], 0⟩ from rfl]
    repeat (first | refine S_pure tabOk rfl ?_)
    refine S_new tabOk rfl (fun b21 hb21 => ?_)
    repeat (first | refine T_seq ?_ | refine T_region ?_ | refine S_nil ?_ | refine S_pure tabOk rfl ?_ | refine S_store tabOk 0 rfl rfl rfl rfl rfl rfl ?_)

    have hidle2 := fun now => tick_idle (s := ⟨f, m, 4, 10, 7, true, 2 + k, 5, 0, 0, [], 0⟩) (now := now) rfl rfl
    refine S_tick0 5 [] rfl rfl hG5 (fun w1 g1 => QArg.nil) (by omega) (fun x h => by cases h) (Nat.zero_le _) (by show 0 + 0 < 59999; decide) (by show (0 : Int) + ((0 : Nat) : Int) + 1 ≤ 1099511627776; decide) (fun g h => by cases h) (show (0 : Int) < 1099511627776 by decide) (hidle2 _).2 (fun a6 c6 G6 hG6 => ⟨_, rfl, ?_⟩)
    rw [(hidle2 _).1, show SdS.calm_ ⟨f, m, 4, 10, 7, true, 2 + k, 5, 0, 0, [], 0⟩ = ⟨f, m, 4, 10, 7, true, 2 + k, 5, 0, 0, [], 0⟩ from rfl]
    repeat (first | refine T_seq ?_ | refine T_region ?_ | refine S_nil ?_ | refine S_pure tabOk rfl ?_)
    refine S_callq (v := .bool true) rfl Try.call29 (fun w1 g1 => se_isopen (g1.own _ (getE_mem (i := 5) rfl)).1) ?_
    repeat (first | refine S_pure tabOk rfl ?_)
    refine S_q (Q_neb tabOk rfl rfl rfl rfl rfl) ?_
    repeat (first | refine S_pure tabOk rfl ?_)
    refine S_re 134 (v' := .bool false) rfl rfl ?_
    refine S_q (Q_eqb tabOk rfl rfl rfl rfl rfl) ?_
    repeat (first | refine S_pure tabOk rfl ?_)
    refine S_callq (v := .int .u64 (2 + k)) rfl Try.call30 (fun w1 g1 => se_inc (g1.own _ (getE_mem (i := 5) rfl)).1) ?_
    repeat (first | refine S_u64 tabOk rfl (by omega) ?_ | refine S_pure tabOk rfl ?_)
    refine S_re 146 (v' := .bool true) rfl (congrArg Value.bool (decide_eq_true rfl)) ?_
    repeat (first | refine S_pure tabOk rfl ?_)
    refine S_callq (v := .int .u64 5) rfl Try.call31 (fun w1 g1 => se_lim (g1.own _ (getE_mem (i := 5) rfl)).1) ?_
    repeat (first | refine S_pure tabOk rfl ?_)
    refine S_re 149 (v' := .bool false) rfl rfl ?_
    refine S_q (Q_eqb tabOk rfl rfl rfl rfl rfl) ?_
    repeat (first | refine S_nil ?_ | refine T_ret ?_ | refine S_pure tabOk rfl ?_)
    exact ret1 rfl rfl (fun w' hw => ⟨rfl, hw.below (by repeat (first | exact new_nil | refine new_ro ?_ | refine new_rx (by assumption) ?_ | refine new_cons (by first | assumption | omega) ?_))⟩)

end Go.Proofs.Ytidhpofcofknhaa
