/-
  A sender: what it is, its right, what it tells. Conditions: each theorem's own.
  Conditions: each theorem's own.
-/
import Derived.Test.YtidhpofcofknhaaEd
namespace Go.Proofs.Ytidhpofcofknhaa
open Go Go.RowKit
set_option linter.unusedVariables false


structure SdS where
  f : Int
  m : Int
  p : Int
  q : Int
  ep : Int
  op : Bool
  inc : Int
  lim : Int
  tm : Int
  tr : Int
  gs : List BG
  last : Int
abbrev cR (f m p q : Int) : Prop := PR f m ∧ 1 ≤ p ∧ p ≤ 64 ∧ 1 ≤ q ∧ q ≤ 1024
structure SdOk (s : SdS) : Prop where
  conf : cR s.f s.m s.p s.q
  ep : Fits .u64 s.ep ∧ s.ep ≠ 0
  inc : Fits .u64 s.inc
  lim : Fits .u64 s.lim
  tm : 0 ≤ s.tm ∧ s.tm ≤ 2305843009213693952
  tr : 0 ≤ s.tr ∧ s.tr ≤ 1099511627776
abbrev sdC (bb : Nat) (s : SdS) : Obj := .cells ⟨[.int .i64 s.f, .int .i64 s.m, .int .i64 s.p, .int .i64 s.q, .int .u64 s.ep, .bool s.op, .int .u64 s.inc, .int .u64 s.lim, bptr bb, .int .i64 s.tm, .int .i64 s.tr]⟩ 118 (0, 0)
/-- a sender -/
def seA (sb : Nat) (s : SdS) : Vp :=
  ⟨fun w F _ => ∃ (bb : Nat) (Fb : Nat → Prop), SdOk s ∧ (w.heap[sb]? = some (sdC bb s) ∧ F sb) ∧ (boA bb s.f s.m s.gs s.last).at_ w Fb (.bool true) ∧ (∀ k, Fb k → F k) ∧ (∀ k, Fb k → k < w.heap.size) ∧ ¬ Fb sb,
   fun {w w' A B v} ⟨bb, Fb, h1, h2, h3, h4, h5, h6⟩ hk => ⟨bb, fun k => (Fb k ∧ B k) ∧ k < w'.heap.size, h1, ⟨((hk sb h2.2 (heap_lt h2.1)).1).trans h2.1, (hk sb h2.2 (heap_lt h2.1)).2⟩,
     (boA _ _ _ _ _).keep h3 fun k hf hlt => ⟨(hk k (h4 k hf) hlt).1, ⟨hf, (hk k (h4 k hf) hlt).2⟩, by
       have := (hk k (h4 k hf) hlt).1
       have h7 := Array.getElem?_eq_getElem hlt
       rw [h7] at this
       exact heap_lt this⟩, fun k h => h.1.2, fun k h => h.2, fun h => h6 h.1.1⟩⟩
abbrev seL (sb bb : Nat) (s : SdS) (Fb : Nat → Prop) (r : Bool) : OL := [.blk sb (sdC bb s) r, .rep (fun w => (boA bb s.f s.m s.gs s.last).at_ w Fb (.bool true)) Fb r]
section
variable {sb : Nat} {s : SdS} {w w0 : World} {F : Nat → Prop} {v : Value} {ol : OL}
theorem se_ok (h : (seA sb s).at_ w F v) : SdOk s ∧ BOk s.last s.gs ∧ BNe s.gs := by
  obtain ⟨bb, Fb, h1, _, h3, _⟩ := h
  exact ⟨h1, (bo_ok h3).2⟩
theorem se_open (h : (seA sb s).at_ w F v) (r : Bool) : ∃ (bb : Nat) (Fb : Nat → Prop), SdOk s ∧ Hp w w (seL sb bb s Fb r) ∧ F sb ∧ ∀ k, Fb k → F k := by
  obtain ⟨bb, Fb, h1, h2, h3, h4, h5, h6⟩ := h
  refine ⟨bb, Fb, h1, ⟨rfl, rfl, rfl, Nat.le_refl _, fun _ _ _ => rfl, fun e he => ?_, ?_⟩, h2.2, h4⟩
  · rcases List.mem_cons.1 he with rfl | he
    · exact h2.1
    · rw [List.mem_singleton] at he
      subst he
      exact ⟨h3, Vp.loc, h5⟩
  · refine List.pairwise_cons.2 ⟨fun e he _ k hk hk2 => ?_, List.pairwise_singleton _ _⟩
    rw [List.mem_singleton] at he
    subst he
    exact h6 (Option.some.inj hk ▸ hk2)
theorem se_close {bb : Nat} {Fb F0 : Nat → Prop} (hh : Hp w0 w (seL sb bb s Fb true ++ ol)) (hok : SdOk s) (hF0 : ∀ k, F0 k → k < w0.heap.size) (hol : ∀ e ∈ ol, ∀ k, e.has k → w0.heap.size ≤ k) (h1 : F0 sb ∨ w0.heap.size ≤ sb) (h2 : ∀ k, Fb k → F0 k ∨ w0.heap.size ≤ k) :
    ∃ F' : Nat → Prop, (∀ k, F0 k → F' k) ∧ (∀ k, F' k → F0 k ∨ w0.heap.size ≤ k) ∧ Hp w0 w (.rep (fun w => (seA sb s).at_ w F' (.bool true)) F' true :: ol) := by
  have o0 : w.heap[sb]? = some (sdC bb s) := hh.own _ (getE_mem (i := 0) rfl)
  have o1 := hh.own _ (getE_mem (i := 1) rfl)
  refine hh.pack2 hF0 hol (fun e' he' e he => .inl (by
    rcases List.mem_cons.1 he' with rfl | he'
    · rfl
    · rw [List.mem_singleton] at he'
      subst he'
      rfl)) (fun e he k hk => ?_) (seA sb s) fun F' hF' => ⟨bb, Fb, hok, ⟨o0, hF' _ (getE_mem (i := 0) rfl) sb rfl⟩, o1.1, hF' _ (getE_mem (i := 1) rfl), o1.2.2, fun h => ?_⟩
  · rcases List.mem_cons.1 he with rfl | he
    · exact Option.some.inj hk ▸ h1
    · rw [List.mem_singleton] at he
      subst he
      exact h2 k hk
  · exact hh.dis 0 1 rfl rfl rfl rfl (show (HE.blk sb (sdC bb s) true).has sb from rfl) h
end
/-- Right of a Conf -/
theorem conf_right (f m p q : Int) (w : World) : Calls Try.prog 56 #[.agg #[.int .i64 f, .int .i64 m, .int .i64 p, .int .i64 q]] w fun e w' => e = .returned (.bool (decide (cR f m p q))) ∧ Below w.heap.size w w' := by
  refine enter1 Try.func56 rfl rfl (Hp.refl w) ?_
  repeat (first | refine T_seq ?_ | refine T_region ?_)
  refine S_new tabOk rfl (fun b1 hb1 => ?_)
  repeat (first | refine T_seq ?_ | refine T_region ?_ | refine S_nil ?_ | refine S_pure tabOk rfl ?_ | refine S_load tabOk 0 rfl rfl rfl ?_)
  refine S_callq rfl Try.call34 (fun w1 h1 => right_ok f m w1) ?_
  repeat (first | refine S_pure tabOk rfl ?_)
  refine S_split rfl rfl (fun h0 => ?_) (fun h0 => ?_)
  · repeat (first | refine S_pure tabOk rfl ?_ | refine S_load tabOk 0 rfl rfl rfl ?_)
    refine S_split rfl rfl (fun h1 => ?_) (fun h1 => ?_)
    · repeat (first | refine S_pure tabOk rfl ?_ | refine S_load tabOk 0 rfl rfl rfl ?_)
      refine S_split rfl rfl (fun h2 => ?_) (fun h2 => ?_)
      · repeat (first | refine S_pure tabOk rfl ?_ | refine S_load tabOk 0 rfl rfl rfl ?_)
        refine S_split rfl rfl (fun h3 => ?_) (fun h3 => ?_)
        · repeat (first | refine S_nil ?_ | refine T_ret ?_ | refine S_pure tabOk rfl ?_ | refine S_load tabOk 0 rfl rfl rfl ?_)
          exact ret1 rfl rfl (fun w' hw => ⟨by rw [show decide (q ≤ 1024) = decide (cR f m p q) from decide_eq_decide.2 ⟨fun h => ⟨h0, h1, h2, h3, h⟩, fun h => h.2.2.2.2⟩], hw.below (by repeat (first | exact new_nil | refine new_cons (by first | assumption | omega) ?_))⟩)
        · repeat (first | refine S_nil ?_ | refine T_ret ?_ | refine S_pure tabOk rfl ?_ | refine S_pass rfl rfl rfl ?_)
          exact ret1 rfl rfl (fun w' hw => ⟨by rw [decide_eq_false fun h : cR f m p q => h3 h.2.2.2.1], hw.below (by repeat (first | exact new_nil | refine new_cons (by first | assumption | omega) ?_))⟩)
      · repeat (first | refine S_nil ?_ | refine T_ret ?_ | refine S_pure tabOk rfl ?_ | refine S_pass rfl rfl rfl ?_)
        exact ret1 rfl rfl (fun w' hw => ⟨by rw [decide_eq_false fun h : cR f m p q => h2 h.2.2.1], hw.below (by repeat (first | exact new_nil | refine new_cons (by first | assumption | omega) ?_))⟩)
    · repeat (first | refine S_nil ?_ | refine T_ret ?_ | refine S_pure tabOk rfl ?_ | refine S_pass rfl rfl rfl ?_)
      exact ret1 rfl rfl (fun w' hw => ⟨by rw [decide_eq_false fun h : cR f m p q => h1 h.2.1], hw.below (by repeat (first | exact new_nil | refine new_cons (by first | assumption | omega) ?_))⟩)
  · repeat (first | refine S_nil ?_ | refine T_ret ?_ | refine S_pure tabOk rfl ?_ | refine S_pass rfl rfl rfl ?_)
    exact ret1 rfl rfl (fun w' hw => ⟨by rw [decide_eq_false fun h : cR f m p q => h0 h.1], hw.below (by repeat (first | exact new_nil | refine new_cons (by first | assumption | omega) ?_))⟩)
/-- made new -/
theorem se_new (f m p q ep : Int) (he : Fits .u64 ep) (w : World) : Calls Try.prog 23 #[.agg #[.int .i64 f, .int .i64 m, .int .i64 p, .int .i64 q], .int .u64 ep] w fun e w' => if cR f m p q ∧ ep ≠ 0 then ∃ (sb : Nat) (F : Nat → Prop), e = .returned (.tuple #[bptr sb, .int .i64 0]) ∧ (∀ k, F k → w.heap.size ≤ k) ∧ Hp w w' [.rep (fun w => (seA sb ⟨f, m, p, q, ep, false, 0, 0, 0, 0, [], 0⟩).at_ w F (.bool true)) F true]
    else e = .returned (.tuple #[.pointer none, .int .i64 1]) ∧ Below w.heap.size w w' := by
  refine enter2 Try.func23 rfl rfl (Hp.refl w) ?_
  repeat (first | refine T_seq ?_ | refine T_region ?_)
  refine S_new tabOk rfl (fun b2 hb2 => ?_)
  repeat (first | refine T_seq ?_ | refine T_region ?_ | refine S_nil ?_ | refine S_pure tabOk rfl ?_ | refine S_load tabOk 0 rfl rfl rfl ?_)
  refine S_callq rfl Try.call56 (fun w1 h1 => conf_right f m p q w1) ?_
  repeat (first | refine S_pure tabOk rfl ?_)
  by_cases hc : cR f m p q
  · refine S_re 11 (v' := .bool false) rfl (congrArg Value.bool (by rw [decide_eq_true hc]; rfl)) ?_
    repeat (first | refine S_nil ?_ | refine S_pure tabOk rfl ?_)
    refine T_cond_dec rfl (fun h0 => ?_) (fun h0 => ?_)
    · repeat (first | refine T_seq ?_ | refine T_region ?_ | refine S_nil ?_ | refine pthen_ret ?_ | refine T_ret ?_ | refine S_pure tabOk rfl ?_)
      exact ret2 rfl rfl rfl (fun w' hw => by
        rw [if_neg fun h => h.2 h0]
        exact ⟨rfl, hw.below (by repeat (first | exact new_nil | refine new_cons (by first | assumption | omega) ?_))⟩)
    · repeat (first | refine T_seq ?_ | refine T_region ?_ | refine pthen_normal ?_ | refine T_skip ?_ | refine S_pure tabOk rfl ?_ | refine S_load tabOk 0 rfl rfl rfl ?_)
      refine S_bnew hc.1 rfl (fun bb Fb hNb => ?_)
      repeat (first | refine T_seq ?_ | refine T_region ?_ | refine S_nil ?_ | refine S_pure tabOk rfl ?_ | refine S_load tabOk 1 rfl rfl rfl ?_ | refine S_q (Q_build tabOk rfl rfl rfl rfl rfl rfl rfl) ?_)
      refine S_new tabOk rfl (fun sb hsb => ?_)
      repeat (first | refine S_nil ?_ | refine T_ret ?_ | refine S_pure tabOk rfl ?_)
      refine ret2 rfl rfl rfl (fun w' hw => ?_)
      rw [if_pos ⟨hc, h0⟩]
      have h9 : Hp w w' (seL sb bb ⟨f, m, p, q, ep, false, 0, 0, 0, 0, [], 0⟩ Fb true ++ []) := hw.less (by repeat (first | exact Less.nil | refine Less.keep ?_ | refine Less.dropB (by first | assumption | omega) ?_))
      obtain ⟨F', g1, g2, g3⟩ := se_close (F0 := fun _ => False) h9 ⟨hc, ⟨he, h0⟩, (show Fits .u64 0 by decide), (show Fits .u64 0 by decide), (show (0 : Int) ≤ 0 ∧ (0 : Int) ≤ 2305843009213693952 by decide), (show (0 : Int) ≤ 0 ∧ (0 : Int) ≤ 1099511627776 by decide)⟩ (fun k h => h.elim) (fun e he => by cases he) (.inr hsb) (fun k hk => .inr (hNb k hk))
      exact ⟨sb, F', rfl, fun k hk => (g2 k hk).resolve_left id, g3⟩
  · refine S_re 11 (v' := .bool true) rfl (congrArg Value.bool (by rw [decide_eq_false hc]; rfl)) ?_
    repeat (first | refine S_nil ?_ | refine S_pure tabOk rfl ?_ | refine S_pass rfl rfl rfl ?_)
    refine T_cond_t rfl ?_
    repeat (first | refine T_seq ?_ | refine T_region ?_ | refine S_nil ?_ | refine pthen_ret ?_ | refine T_ret ?_ | refine S_pure tabOk rfl ?_)
    exact ret2 rfl rfl rfl (fun w' hw => by
      rw [if_neg fun h => hc h.1]
      exact ⟨rfl, hw.below (by repeat (first | exact new_nil | refine new_cons (by first | assumption | omega) ?_))⟩)
section
variable {sb : Nat} {s : SdS} {w w0 : World} {F : Nat → Prop} {v : Value} {ol : OL}
theorem se_isopen (h : (seA sb s).at_ w F v) : Calls Try.prog 29 #[bptr sb] w fun e w' => e = .returned (.bool s.op) ∧ Below w.heap.size w w' := by
  obtain ⟨bb, Fb, hok, hst, _⟩ := se_open h false
  refine enter1 Try.func29 rfl rfl hst ?_
  repeat (first | refine T_seq ?_ | refine T_region ?_ | refine S_nil ?_ | refine S_pure tabOk rfl ?_)
  refine S_q (Q_neptr tabOk rfl rfl rfl rfl rfl) ?_
  repeat (first | refine S_nil ?_ | refine T_ret ?_ | refine S_pure tabOk rfl ?_ | refine S_load tabOk 0 rfl rfl rfl ?_)
  exact ret1 rfl rfl (fun w' hw => ⟨rfl, hw.below (by repeat (first | exact new_nil | refine new_bf ?_ | refine new_ro ?_))⟩)
theorem se_isopen0 (w : World) : Calls Try.prog 29 #[.pointer none] w fun e w' => e = .returned (.bool false) ∧ Below w.heap.size w w' := by
  refine enter1 Try.func29 rfl rfl (Hp.refl w) ?_
  repeat (first | refine T_seq ?_ | refine T_region ?_ | refine S_nil ?_ | refine S_pure tabOk rfl ?_)
  refine S_q (Q_neptr tabOk rfl rfl rfl rfl rfl) ?_
  repeat (first | refine S_nil ?_ | refine T_ret ?_ | refine S_pure tabOk rfl ?_ | refine S_pass rfl rfl rfl ?_)
  exact ret1 rfl rfl (fun w' hw => ⟨rfl, hw.below (by repeat (first | exact new_nil))⟩)
theorem se_inc (h : (seA sb s).at_ w F v) : Calls Try.prog 30 #[bptr sb] w fun e w' => e = .returned (.int .u64 s.inc) ∧ Below w.heap.size w w' := by
  obtain ⟨bb, Fb, hok, hst, _⟩ := se_open h false
  refine enter1 Try.func30 rfl rfl hst ?_
  repeat (first | refine T_seq ?_ | refine T_region ?_ | refine S_nil ?_ | refine S_pure tabOk rfl ?_)
  refine S_q (Q_eqptr tabOk rfl rfl rfl rfl rfl) ?_
  repeat (first | refine T_seq ?_ | refine T_region ?_ | refine S_nil ?_ | refine pthen_normal ?_ | refine T_skip ?_ | refine T_ret ?_ | refine T_cond_f rfl ?_ | refine S_pure tabOk rfl ?_ | refine S_load tabOk 0 rfl rfl rfl ?_)
  exact ret1 rfl rfl (fun w' hw => ⟨rfl, hw.below (by repeat (first | exact new_nil | refine new_bf ?_ | refine new_ro ?_))⟩)
theorem se_inc0 (w : World) : Calls Try.prog 30 #[.pointer none] w fun e w' => e = .returned (.int .u64 0) ∧ Below w.heap.size w w' := by
  refine enter1 Try.func30 rfl rfl (Hp.refl w) ?_
  repeat (first | refine T_seq ?_ | refine T_region ?_ | refine S_nil ?_ | refine S_pure tabOk rfl ?_)
  refine S_q (Q_eqptr tabOk rfl rfl rfl rfl rfl) ?_
  repeat (first | refine T_seq ?_ | refine T_region ?_ | refine S_nil ?_ | refine pthen_ret ?_ | refine T_ret ?_ | refine T_cond_t rfl ?_ | refine S_pure tabOk rfl ?_)
  exact ret1 rfl rfl (fun w' hw => ⟨rfl, hw.below (by repeat (first | exact new_nil))⟩)
theorem se_lim (h : (seA sb s).at_ w F v) : Calls Try.prog 31 #[bptr sb] w fun e w' => e = .returned (.int .u64 s.lim) ∧ Below w.heap.size w w' := by
  obtain ⟨bb, Fb, hok, hst, _⟩ := se_open h false
  refine enter1 Try.func31 rfl rfl hst ?_
  repeat (first | refine T_seq ?_ | refine T_region ?_ | refine S_nil ?_ | refine S_pure tabOk rfl ?_)
  refine S_q (Q_eqptr tabOk rfl rfl rfl rfl rfl) ?_
  repeat (first | refine T_seq ?_ | refine T_region ?_ | refine S_nil ?_ | refine pthen_normal ?_ | refine T_skip ?_ | refine T_ret ?_ | refine T_cond_f rfl ?_ | refine S_pure tabOk rfl ?_ | refine S_load tabOk 0 rfl rfl rfl ?_)
  exact ret1 rfl rfl (fun w' hw => ⟨rfl, hw.below (by repeat (first | exact new_nil | refine new_bf ?_ | refine new_ro ?_))⟩)
theorem se_lim0 (w : World) : Calls Try.prog 31 #[.pointer none] w fun e w' => e = .returned (.int .u64 0) ∧ Below w.heap.size w w' := by
  refine enter1 Try.func31 rfl rfl (Hp.refl w) ?_
  repeat (first | refine T_seq ?_ | refine T_region ?_ | refine S_nil ?_ | refine S_pure tabOk rfl ?_)
  refine S_q (Q_eqptr tabOk rfl rfl rfl rfl rfl) ?_
  repeat (first | refine T_seq ?_ | refine T_region ?_ | refine S_nil ?_ | refine pthen_ret ?_ | refine T_ret ?_ | refine T_cond_t rfl ?_ | refine S_pure tabOk rfl ?_)
  exact ret1 rfl rfl (fun w' hw => ⟨rfl, hw.below (by repeat (first | exact new_nil))⟩)
theorem se_flight (h : (seA sb s).at_ w F v) : Calls Try.prog 27 #[bptr sb] w fun e w' => ∃ r, e = .returned r ∧ Below w.heap.size w w' ∧ (setP (· ∈ bNums s.gs) (bNums s.gs).length).at_ w' (fun k => w.heap.size ≤ k) r := by
  obtain ⟨bb, Fb, hok, hst, _⟩ := se_open h false
  refine enter1 Try.func27 rfl rfl hst ?_
  repeat (first | refine T_seq ?_ | refine T_region ?_)
  refine S_new tabOk rfl (fun b2 hb2 => ?_)
  repeat (first | refine T_seq ?_ | refine T_region ?_ | refine S_nil ?_ | refine S_pure tabOk rfl ?_)
  refine S_q (Q_eqptr tabOk rfl rfl rfl rfl rfl) ?_
  repeat (first | refine T_seq ?_ | refine T_region ?_ | refine S_nil ?_ | refine pthen_normal ?_ | refine T_skip ?_ | refine T_cond_f rfl ?_ | refine S_pure tabOk rfl ?_ | refine S_load tabOk 1 rfl rfl rfl ?_)
  refine S_callR (setP (· ∈ bNums s.gs) (bNums s.gs).length) (fun k => w.heap.size ≤ k) rfl Try.call53 (fun w1 g1 => (bo_flight (g1.own _ (getE_mem (i := 2) rfl)).1).mono fun e w' ⟨r, e1, e2, e3⟩ => ⟨r, e1, e2, nbb g1 e3⟩) (fun v1 F1 w1 hF1 hv1 => ?_)
  obtain ⟨a1, n1, c1, rfl⟩ := setP_val hv1
  repeat (first | refine S_nil ?_ | refine T_ret ?_ | refine S_store tabOk 1 rfl rfl rfl rfl rfl rfl ?_)
  exact ret1 rfl (res_cell tabOk 1 rfl rfl rfl rfl) (fun w' hw => ⟨_, rfl, hw.below (by repeat (first | exact new_nil | refine new_bf ?_ | refine new_ro ?_ | refine new_cons (by first | assumption | omega) ?_)), Vp.mono _ (Vp.fact0 hw 0 rfl) fun k hk => (hF1 k hk).elim id id⟩)
theorem se_flight0 (w : World) : Calls Try.prog 27 #[.pointer none] w fun e w' => e = .returned (setV none 0 0) ∧ Below w.heap.size w w' := by
  refine enter1 Try.func27 rfl rfl (Hp.refl w) ?_
  repeat (first | refine T_seq ?_ | refine T_region ?_)
  refine S_new tabOk rfl (fun b2 hb2 => ?_)
  repeat (first | refine T_seq ?_ | refine T_region ?_ | refine S_nil ?_ | refine S_pure tabOk rfl ?_)
  refine S_q (Q_eqptr tabOk rfl rfl rfl rfl rfl) ?_
  repeat (first | refine T_seq ?_ | refine T_region ?_ | refine S_nil ?_ | refine pthen_ret ?_ | refine T_ret ?_ | refine T_cond_t rfl ?_ | refine S_store tabOk 0 rfl rfl rfl rfl rfl rfl ?_ | refine S_q (Q_build tabOk rfl rfl rfl rfl rfl rfl rfl) ?_)
  exact ret1 rfl (res_cell tabOk 0 rfl rfl rfl rfl) (fun w' hw => ⟨rfl, hw.below (by repeat (first | exact new_nil | refine new_cons (by first | assumption | omega) ?_))⟩)
end

end Go.Proofs.Ytidhpofcofknhaa
