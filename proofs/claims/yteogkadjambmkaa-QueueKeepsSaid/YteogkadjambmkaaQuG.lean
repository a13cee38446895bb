/-
  A queue's Class, Takes, Get. Conditions: each theorem's own.
-/
import Derived.Test.YteogkadjambmkaaQuF
namespace Go.Proofs.Yteogkadjambmkaa
open Go Go.RowKit
set_option linter.unusedVariables false

section
variable {qb : Nat} {cap last : Int} {ws : List Int} {L : List QE} {K : Nat} {w : World} {F : Nat → Prop}
theorem q_class0 (c : Int) (w : World) : Calls Try.prog 42 #[.pointer none, .int .i64 c] w fun e w' => e = .returned (.int .i64 0) ∧ Below w.heap.size w w' := by
  refine enter2 Try.func42 rfl rfl (Hp.refl w) ?_
  repeat (first | refine T_seq ?_ | refine T_region ?_ | refine S_nil ?_ | refine S_pure tabOk rfl ?_)
  refine S_q (Q_eqptr tabOk rfl rfl rfl rfl rfl) ?_
  repeat (first | refine S_nil ?_ | refine S_pure tabOk rfl ?_ | refine S_pass rfl rfl rfl ?_)
  refine T_cond_t rfl ?_
  repeat (first | refine T_seq ?_ | refine T_region ?_ | refine S_nil ?_ | refine pthen_ret ?_ | refine T_ret ?_ | refine S_pure tabOk rfl ?_)
  exact ret1 rfl rfl (fun w' hw => ⟨rfl, hw.below new_nil⟩)
theorem q_class (h : (quA qb cap last ws L K).at_ w F (.bool true)) (c : Int) : Calls Try.prog 42 #[qptr qb, .int .i64 c] w fun e w' => e = .returned (.int .i64 (if 0 ≤ c ∧ c < (ws.length : Int) then bsum L c.toNat else 0)) ∧ Below w.heap.size w w' := by
  obtain ⟨mb, bys, s, M, cc, wv, lv, bv, hS, _, hbys, _⟩ := h
  obtain ⟨F2, hst⟩ := Hp.startR (p := quV qb mb cap last ws bys s M cc L wv lv bv) (v := .bool true) hS
  refine enter2 Try.func42 rfl rfl hst ?_
  repeat (first | refine T_seq ?_ | refine T_region ?_ | refine S_nil ?_ | refine S_pure tabOk rfl ?_)
  refine S_q (Q_eqptr tabOk rfl rfl rfl rfl rfl) ?_
  repeat (first | refine S_pure tabOk rfl ?_)
  have hbl : bys.length = ws.length := by rw [hbys]; simp
  by_cases hc : c < 0
  · rw [if_neg (by omega)]
    refine S_re 11 (v' := .bool true) rfl (congrArg Value.bool (decide_eq_true hc)) ?_
    repeat (first | refine S_nil ?_ | refine S_pure tabOk rfl ?_ | refine S_pass rfl rfl rfl ?_)
    refine T_cond_t rfl ?_
    repeat (first | refine T_seq ?_ | refine T_region ?_ | refine S_nil ?_ | refine pthen_ret ?_ | refine T_ret ?_ | refine S_pure tabOk rfl ?_)
    exact ret1 rfl rfl (fun w' hw => ⟨rfl, hw.below (by repeat (first | exact new_nil | refine new_ro ?_))⟩)
  refine S_re 11 (v' := .bool false) rfl (congrArg Value.bool (decide_eq_false hc)) ?_
  obtain ⟨a, cb, rfl, hcb⟩ := form_of_own hS.bs
  repeat (first | refine S_pure tabOk rfl ?_)
  refine S_load1 tabOk (v := .slice a bys.length cb) rfl rfl (fun w' hw => QuS.cell (hw.own _ (getE_mem (i := 0) rfl)).1 (j := 4) rfl) ?_
  repeat (first | refine S_nil ?_ | refine S_pure tabOk rfl ?_)
  refine T_cond_dec rfl (fun hge => ?_) (fun hge => ?_)
  · rw [if_neg (by omega)]
    repeat (first | refine T_seq ?_ | refine T_region ?_ | refine S_nil ?_ | refine pthen_ret ?_ | refine T_ret ?_ | refine S_pure tabOk rfl ?_)
    exact ret1 rfl rfl (fun w' hw => ⟨rfl, hw.below (by repeat (first | exact new_nil | refine new_ro ?_))⟩)
  · have hcl : c.toNat < bys.length := by omega
    obtain ⟨g, cc', e1, hcc, _⟩ := hS.bcell hcl
    cases e1
    rw [if_pos (by omega)]
    have hb : bys[c.toNat] = bsum L c.toNat := by simp [hbys]
    repeat (first | refine T_seq ?_ | refine T_region ?_ | refine pthen_normal ?_ | refine T_skip ?_ | refine S_pure tabOk rfl ?_)
    refine S_load1 tabOk (v := .slice (some ⟨g, 0, none⟩) bys.length cb) rfl rfl (fun w' hw => QuS.cell (hw.own _ (getE_mem (i := 0) rfl)).1 (j := 4) rfl) ?_
    repeat (first | refine S_pure tabOk rfl ?_)
    refine S_q (Q_idx1 tabOk rfl rfl rfl rfl rfl rfl rfl (j := c.toNat) (by omega) (by omega)) ?_
    refine S_load1 tabOk (v := .int .i64 bys[c.toNat]) rfl rfl (fun w' hw => by
      obtain ⟨g', cc', e1, _, h9⟩ := QuS.bcell (hw.own _ (getE_mem (i := 0) rfl)).1 hcl
      cases e1
      exact h9) ?_
    repeat (first | refine S_nil ?_ | refine T_ret ?_ | refine S_pure tabOk rfl ?_)
    exact ret1 rfl rfl (fun w' hw => ⟨by rw [hb], hw.below (by repeat (first | exact new_nil | refine new_ro ?_))⟩)
theorem q_takes (h : (quA qb cap last ws L K).at_ w F (.bool true)) (k : Int) (a : Option Addr) (n c : Nat) : Calls Try.prog 34 #[qptr qb, .agg #[.int .i64 k, .slice a n c]] w fun e w' => e = .returned (.bool (sright k n && decide (k < (ws.length : Int)))) ∧ Below w.heap.size w w' := by
  obtain ⟨mb, bys, s, M, cc, wv, lv, bv, hS, _, hbys, _⟩ := h
  obtain ⟨F2, hst⟩ := Hp.startR (p := quV qb mb cap last ws bys s M cc L wv lv bv) (v := .bool true) hS
  refine enter2 Try.func34 rfl rfl hst ?_
  repeat (first | refine T_seq ?_ | refine T_region ?_)
  refine S_new tabOk rfl (fun b3 hb3 => ?_)
  repeat (first | refine T_draw (by kernel_rfl) (by kernel_rfl) ?_ | refine D_pure tabOk rfl ?_ | refine T_seq ?_ | refine S_nil ?_ | refine S_pure tabOk rfl ?_)
  refine D_q (Q_neptr tabOk rfl rfl rfl rfl rfl) ?_
  repeat (first | refine D_pure tabOk rfl ?_ | refine D_load tabOk 0 rfl rfl rfl ?_)
  obtain ⟨a2, cw, rfl, hcw⟩ := form_of_own hS.ws
  cases hr : sright k n with
  | true =>
    refine D_callx (v := .bool true) rfl Try.call57 (fun w' vs hw' h => by
      obtain ⟨u1, _, rfl, rfl, rfl⟩ := h
      exact (spright_ok k a n c w').mono fun e w2 ⟨e1, e2⟩ => ⟨by rw [e1, hr], e2⟩) ?_
    repeat (first | refine D_pure tabOk rfl ?_ | refine D_load tabOk 0 rfl rfl rfl ?_)
    refine D_load1 tabOk (v := .slice a2 ws.length cw) rfl rfl (fun w' hw => QuS.cell (hw.own _ (getE_mem (i := 1) rfl)).1 (j := 1) rfl) ?_
    repeat (first | refine D_all rfl ?_ | refine D_pure tabOk rfl ?_ | refine T_ret ?_)
    exact ret1 rfl rfl (fun w' hw => ⟨by rw [Bool.true_and], hw.below (by repeat (first | exact new_nil | refine new_ro ?_ | refine new_cons (by first | assumption | omega) ?_))⟩)
  | false =>
    refine D_callx (v := .bool false) rfl Try.call57 (fun w' vs hw' h => by
      obtain ⟨u1, _, rfl, rfl, rfl⟩ := h
      exact (spright_ok k a n c w').mono fun e w2 ⟨e1, e2⟩ => ⟨by rw [e1, hr], e2⟩) ?_
    repeat (first | refine D_all rfl ?_ | refine D_pure tabOk rfl ?_ | refine D_pass rfl rfl rfl ?_ | refine T_ret ?_)
    exact ret1 rfl rfl (fun w' hw => ⟨by rw [Bool.false_and], hw.below (by repeat (first | exact new_nil | refine new_ro ?_ | refine new_cons (by first | assumption | omega) ?_))⟩)
theorem q_takes0 (k : Int) (a : Option Addr) (n c : Nat) (w : World) : Calls Try.prog 34 #[.pointer none, .agg #[.int .i64 k, .slice a n c]] w fun e w' => e = .returned (.bool false) ∧ Below w.heap.size w w' := by
  refine enter2 Try.func34 rfl rfl (Hp.refl w) ?_
  repeat (first | refine T_seq ?_ | refine T_region ?_)
  refine S_new tabOk rfl (fun b3 hb3 => ?_)
  repeat (first | refine T_draw (by kernel_rfl) (by kernel_rfl) ?_ | refine D_pure tabOk rfl ?_ | refine T_seq ?_ | refine S_nil ?_ | refine S_pure tabOk rfl ?_)
  refine D_q (Q_neptr tabOk rfl rfl rfl rfl rfl) ?_
  repeat (first | refine D_all rfl ?_ | refine D_pure tabOk rfl ?_ | refine D_pass rfl rfl rfl ?_ | refine T_ret ?_)
  exact ret1 rfl rfl (fun w' hw => ⟨rfl, hw.below (by repeat (first | exact new_nil | refine new_cons (by first | assumption | omega) ?_))⟩)
end
end Go.Proofs.Yteogkadjambmkaa
