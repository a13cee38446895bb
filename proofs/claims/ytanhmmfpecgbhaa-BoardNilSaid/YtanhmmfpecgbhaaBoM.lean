/-
  The law BoardNil: its walk. Conditions: each theorem's own.
-/
import Derived.Test.YtanhmmfpecgbhaaBoL
namespace Go.Proofs.Ytanhmmfpecgbhaa
open Go Go.RowKit
set_option linter.unusedVariables false

set_option maxHeartbeats 4000000 in
theorem boardNil_walk (v0 : Value) (p : Int × Int) (n now : Int) (W : World) (h0 : (Rpair (Rint .i64) (Rint .i64)).val W TT v0 p) (hn : Fits .u64 n) (hnow : Fits .i64 now) : Calls Try.prog 6 #[v0, .int .u64 n, .int .i64 now] W fun e W' => e = .returned (.bool true) ∧ Below W.heap.size W W' := by
  obtain ⟨f, m⟩ := p
  obtain ⟨_, rfl, c1, c2, rfl, ⟨rfl, _⟩, rfl, _⟩ := h0
  refine enter3 Try.func6 rfl rfl (Hp.refl W) ?_
  repeat (first | refine T_seq ?_ | refine T_region ?_)
  refine S_new tabOk rfl (fun b3 hb3 => ?_)
  repeat (first | refine T_seq ?_ | refine T_region ?_ | refine S_nil ?_ | refine S_pure tabOk rfl ?_)
  refine S_callq (v := .bool true) rfl Try.call11 (fun w1 h1 => awake13_ok w1) ?_
  repeat (first | refine S_nil ?_ | refine S_pure tabOk rfl ?_)
  refine T_cond_f rfl ?_
  repeat (first | refine T_seq ?_ | refine T_region ?_ | refine pthen_normal ?_ | refine T_skip ?_ | refine S_load tabOk 0 rfl rfl rfl ?_)
  by_cases hp : PR f m
  · refine S_bnew hp rfl (fun bb F0 hN0 => ?_)
    repeat (first | refine T_seq ?_ | refine T_region ?_ | refine S_nil ?_ | refine S_pure tabOk rfl ?_)
    refine S_callq rfl Try.call31 (fun w1 h1 => bo_clear0 w1) ?_
    repeat (first | refine T_seq ?_ | refine T_region ?_ | refine S_nil ?_ | refine S_pure tabOk rfl ?_)
    refine S_callq rfl Try.call34 (fun w1 h1 => bo_next0 w1) ?_
    repeat (first | refine T_seq ?_ | refine T_region ?_ | refine S_nil ?_ | refine S_pure tabOk rfl ?_ | refine S_load tabOk 1 rfl rfl rfl ?_)
    refine S_callq rfl Try.call35 (fun w1 h1 => right_ok f m w1) ?_
    refine S_re 29 (v' := .bool true) rfl (congrArg Value.bool (decide_eq_true hp)) ?_
    refine S_q (Q_eqb tabOk rfl rfl rfl rfl rfl) ?_
    repeat (first | refine S_pure tabOk rfl ?_ | refine S_pass rfl rfl rfl ?_)
    refine S_q (Q_eqptr tabOk rfl rfl rfl rfl rfl) ?_
    repeat (first | refine S_pure tabOk rfl ?_)
    refine S_q (Q_eqb tabOk rfl rfl rfl rfl rfl) ?_
    repeat (first | refine S_pure tabOk rfl ?_)
    refine S_bslice tabOk rfl rfl rfl rfl rfl rfl rfl rfl rfl rfl rfl rfl (fun n1 hn1 => ?_)
    refine S_callq rfl Try.call13 (fun w1 h1 => bo_send0 w1 now _ _ _) ?_
    repeat (first | refine S_pure tabOk rfl ?_)
    refine S_bslice tabOk rfl rfl rfl rfl rfl rfl rfl rfl rfl rfl rfl rfl (fun n2 hn2 => ?_)
    refine S_of (L := [n]) rfl (fun w1 h1 => ⟨_, blk_slr (l := [n]) (h1.own _ (getE_mem (i := 0) rfl)) (fun x hx => by rw [List.mem_singleton] at hx; rw [hx]; exact hn) (by show 1 ≤ maxLen; decide)⟩) (by decide) (fun a2 m2 c2 F2 hF2 => ?_)
    refine S_callq rfl Try.call16 (fun w1 h1 => bo_take0 w1 _ _ _) ?_
    repeat (first | refine S_pure tabOk rfl ?_)
    refine S_callq rfl Try.call19 (fun w1 h1 => bo_due0 w1 now) ?_
    repeat (first | refine S_i64 tabOk rfl (by omega) ?_ | refine S_pure tabOk rfl ?_)
    refine S_callq rfl Try.call27 (fun w1 h1 => bo_has0 w1 n) ?_
    repeat (first | refine S_pure tabOk rfl ?_)
    refine S_callq rfl Try.call15 (fun w1 h1 => bo_flight0 w1) ?_
    repeat (first | refine S_q (Q_build tabOk rfl rfl rfl rfl rfl rfl rfl) ?_)
    refine S_callq (v := .bool true) rfl Try.call20 (fun w1 h1 => same_t (A := TT) (D := TT) w1 setP_nil setP_nil fun x => Iff.rfl) ?_
    repeat (first | refine S_pure tabOk rfl ?_)
    refine S_callq rfl Try.call36 (fun w1 h1 => bo_count0 w1) ?_
    repeat (first | refine S_pure tabOk rfl ?_)
    refine S_callq rfl Try.call26 (fun w1 h1 => bo_tries0 w1 n) ?_
    repeat (first | refine S_nil ?_ | refine T_ret ?_ | refine S_i64 tabOk rfl (by omega) ?_ | refine S_pure tabOk rfl ?_)
    exact ret1 rfl rfl (fun w' hw => ⟨rfl, hw.below (by repeat (first | exact new_nil | refine new_ro ?_ | refine new_rx (by assumption) ?_ | refine new_cons (by first | assumption | omega) ?_))⟩)

  · refine S_callq (v := .tuple #[.pointer none, .int .i64 1]) rfl Try.call12 (fun w1 h1 => (bo_new f m w1).mono fun e w' h => by rw [if_neg hp] at h; exact h) ?_
    repeat (first | refine T_seq ?_ | refine T_region ?_ | refine S_nil ?_ | refine S_pure tabOk rfl ?_)
    refine S_callq rfl Try.call31 (fun w1 h1 => bo_clear0 w1) ?_
    repeat (first | refine T_seq ?_ | refine T_region ?_ | refine S_nil ?_ | refine S_pure tabOk rfl ?_)
    refine S_callq rfl Try.call34 (fun w1 h1 => bo_next0 w1) ?_
    repeat (first | refine T_seq ?_ | refine T_region ?_ | refine S_nil ?_ | refine S_pure tabOk rfl ?_ | refine S_load tabOk 0 rfl rfl rfl ?_)
    refine S_callq rfl Try.call35 (fun w1 h1 => right_ok f m w1) ?_
    refine S_re 29 (v' := .bool false) rfl (congrArg Value.bool (decide_eq_false hp)) ?_
    refine S_q (Q_eqb tabOk rfl rfl rfl rfl rfl) ?_
    repeat (first | refine S_pure tabOk rfl ?_)
    refine S_q (Q_eqptr tabOk rfl rfl rfl rfl rfl) ?_
    repeat (first | refine S_pure tabOk rfl ?_)
    refine S_q (Q_eqb tabOk rfl rfl rfl rfl rfl) ?_
    repeat (first | refine S_pure tabOk rfl ?_)
    refine S_bslice tabOk rfl rfl rfl rfl rfl rfl rfl rfl rfl rfl rfl rfl (fun n1 hn1 => ?_)
    refine S_callq rfl Try.call13 (fun w1 h1 => bo_send0 w1 now _ _ _) ?_
    repeat (first | refine S_pure tabOk rfl ?_)
    refine S_bslice tabOk rfl rfl rfl rfl rfl rfl rfl rfl rfl rfl rfl rfl (fun n2 hn2 => ?_)
    refine S_of (L := [n]) rfl (fun w1 h1 => ⟨_, blk_slr (l := [n]) (h1.own _ (getE_mem (i := 0) rfl)) (fun x hx => by rw [List.mem_singleton] at hx; rw [hx]; exact hn) (by show 1 ≤ maxLen; decide)⟩) (by decide) (fun a2 m2 c2 F2 hF2 => ?_)
    refine S_callq rfl Try.call16 (fun w1 h1 => bo_take0 w1 _ _ _) ?_
    repeat (first | refine S_pure tabOk rfl ?_)
    refine S_callq rfl Try.call19 (fun w1 h1 => bo_due0 w1 now) ?_
    repeat (first | refine S_i64 tabOk rfl (by omega) ?_ | refine S_pure tabOk rfl ?_)
    refine S_callq rfl Try.call27 (fun w1 h1 => bo_has0 w1 n) ?_
    repeat (first | refine S_pure tabOk rfl ?_)
    refine S_callq rfl Try.call15 (fun w1 h1 => bo_flight0 w1) ?_
    repeat (first | refine S_q (Q_build tabOk rfl rfl rfl rfl rfl rfl rfl) ?_)
    refine S_callq (v := .bool true) rfl Try.call20 (fun w1 h1 => same_t (A := TT) (D := TT) w1 setP_nil setP_nil fun x => Iff.rfl) ?_
    repeat (first | refine S_pure tabOk rfl ?_)
    refine S_callq rfl Try.call36 (fun w1 h1 => bo_count0 w1) ?_
    repeat (first | refine S_pure tabOk rfl ?_)
    refine S_callq rfl Try.call26 (fun w1 h1 => bo_tries0 w1 n) ?_
    repeat (first | refine S_nil ?_ | refine T_ret ?_ | refine S_i64 tabOk rfl (by omega) ?_ | refine S_pure tabOk rfl ?_)
    exact ret1 rfl rfl (fun w' hw => ⟨rfl, hw.below (by repeat (first | exact new_nil | refine new_ro ?_ | refine new_cons (by first | assumption | omega) ?_))⟩)

end Go.Proofs.Ytanhmmfpecgbhaa
