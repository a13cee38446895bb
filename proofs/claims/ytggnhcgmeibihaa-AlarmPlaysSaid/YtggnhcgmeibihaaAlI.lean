/-
  The document's example; a nil alarm. Conditions: each theorem's own.
-/
import Derived.Test.YtggnhcgmeibihaaAlH
import Derived.Test.YtggnhcgmeibihaaEqu
namespace Go.Proofs.Ytggnhcgmeibihaa
open Go Go.RowKit
set_option linter.unusedVariables false

section
variable {P : Program} {n : Nat} {w0 : World} {all : Array Oper} {os : List Oper} {o : Oper} {l : FL} {ol : OL} {K : FL → OL → Prop} {Q : Post} {d : Nat}
/-- a call that turns an object of our own -/
theorem S_turn (i : Nat) {p q : Vp} {F : Nat → Prop} {f : FuncId} {vs : List Value} {v : Value} (hs : callAt? n all (look l) o = some (d, f, vs)) (hcall : ∀ args w, (callFunc f args).run P w = .ok (.enter f args) w) (hi : getE ol i = some (.rep (fun w => p.at_ w F (.bool true)) F true)) (hN : ∀ k, F k → w0.heap.size ≤ k)
    (hc : ∀ w, p.at_ w F (.bool true) → (∀ k, F k → k < w.heap.size) → Calls P f vs.toArray w (fun e w' => e = .returned v ∧ Turns w F q w')) (k : ∀ F' : Nat → Prop, (∀ k, F' k → w0.heap.size ≤ k) → ∃ ol', putE ol i (.rep (fun w => q.at_ w F' (.bool true)) F' true) = some ol' ∧ S P n w0 all os ((d, v) :: l) ol' K Q) : S P n w0 all (o :: os) l ol K Q :=
  S_callT i hs hcall hi fun w g => (hc w (g.own _ (getE_mem hi)).1 (g.own _ (getE_mem hi)).2.2).mono fun e w' ⟨he, F', g1, g2, g3⟩ => by
    obtain ⟨ol', e1, e2⟩ := k F' fun j hj => (g2 j hj).elim (hN j) (Nat.le_trans g.size)
    exact ⟨v, _, F', he, g3, g1, g2, ol', e1, e2⟩
/-- .. and makes a slice -/
theorem S_turnR (i : Nat) {p q : Vp} {F : Nat → Prop} {f : FuncId} {vs : List Value} {E : TypeId} {sz m : Nat} {xs : List Value} (hs : callAt? n all (look l) o = some (d, f, vs)) (hcall : ∀ args w, (callFunc f args).run P w = .ok (.enter f args) w) (hi : getE ol i = some (.rep (fun w => p.at_ w F (.bool true)) F true)) (hN : ∀ k, F k → w0.heap.size ≤ k)
    (hc : ∀ w, p.at_ w F (.bool true) → (∀ k, F k → k < w.heap.size) → Calls P f vs.toArray w (fun e w' => ∃ A C, e = .returned (.slice A m C) ∧ ∃ F' : Nat → Prop, (∀ k, F k → F' k) ∧ (∀ k, F' k → F k ∨ w.heap.size ≤ k) ∧ Hp w w' [.row w.heap.size (.slice A m C) E sz m xs, .rep (fun w => q.at_ w F' (.bool true)) F' true]))
    (k : ∀ A C (F' : Nat → Prop), (∀ k, F' k → w0.heap.size ≤ k) → ∃ ol', putE ol i (.rep (fun w => q.at_ w F' (.bool true)) F' true) = some ol' ∧ S P n w0 all os ((d, .slice A m C) :: l) (.row w0.heap.size (.slice A m C) E sz m xs :: ol') K Q) : S P n w0 all (o :: os) l ol K Q :=
  S_callTR i hs hcall hi fun w g => (hc w (g.own _ (getE_mem hi)).1 (g.own _ (getE_mem hi)).2.2).mono fun e w' ⟨A, C, he, F', g1, g2, g3⟩ => by
    obtain ⟨ol', e1, e2⟩ := k A C F' fun j hj => (g2 j hj).elim (hN j) (Nat.le_trans g.size)
    exact ⟨_, _, F', _, E, sz, m, xs, he, g3, g1, g2, ol', e1, e2⟩
end
theorem al_due0 (now : Int) (w : World) : Calls Try.prog 15 #[.pointer none, .int .i64 now] w fun e w' => e = .returned (.slice none 0 0) ∧ Below w.heap.size w w' := by
  refine enter2 Try.func15 rfl rfl (Hp.refl w) ?_
  repeat (first | refine T_seq ?_ | refine T_region ?_ | refine T_block ?_ | refine S_nil ?_ | refine S_pure tabOk rfl ?_)
  refine T_loop (ι := Unit) (fun i => [(0, .pointer none), (1, .int .i64 now), (5, .slice none 0 0)]) (fun i => []) (fun _ => True) (fun _ => 0) () trivial (by repeat (first | exact Sub.nil | refine Sub.cons rfl ?_)) (fun w' hw => hw) ?_
  rintro ⟨⟩ _
  repeat (first | refine T_seq ?_ | refine T_region ?_ | refine T_block ?_ | refine S_pure tabOk rfl ?_)
  refine S_callq rfl Try.call24 (fun w1 h1 => al_next0 w1) ?_
  repeat (first | refine T_seq ?_ | refine T_region ?_ | refine S_nil ?_ | refine S_pure tabOk rfl ?_ | refine S_pass rfl rfl rfl ?_)
  refine T_cond_t rfl ?_
  repeat (first | refine T_seq ?_ | refine T_region ?_ | refine S_nil ?_ | refine inb_ret ?_ | refine pthen_ret ?_ | refine T_ret ?_ | refine S_pure tabOk rfl ?_)
  exact ret1 rfl rfl (fun w' hw => ⟨rfl, hw.below (by repeat (first | exact new_nil))⟩)
set_option maxHeartbeats 1000000 in
theorem awake12_ok (w : World) : Calls Try.prog 12 #[] w fun e w' => e = .returned (.bool true) ∧ Below w.heap.size w w' := by
  refine enter0 Try.func12 rfl (Hp.refl w) ?_
  repeat (first | refine T_seq ?_ | refine T_region ?_ | refine S_nil ?_ | refine S_pure tabOk rfl ?_)
  refine S_callN rfl Try.call13 (fun w1 h1 => (al_new w1).mono fun e w' ⟨ab, F, he, h2, h3⟩ => ⟨_, _, F, he, h2, h3, fun hN0 => ?_⟩)
  repeat (first | refine T_seq ?_ | refine T_region ?_ | refine S_nil ?_ | refine S_pure tabOk rfl ?_)
  refine S_turn 0 (q := alA ab [(5, 9)]) rfl Try.call14 rfl hN0 (fun w1 g1 g2 => al_set g1 g2 (by decide) 5 9) (fun F1 hN1 => ⟨_, rfl, ?_⟩)
  repeat (first | refine T_seq ?_ | refine T_region ?_ | refine S_nil ?_ | refine S_pure tabOk rfl ?_)
  refine S_turn 0 (q := alA ab [(3, 9), (5, 9)]) rfl Try.call14 rfl hN1 (fun w1 g1 g2 => al_set g1 g2 (by decide) 3 9) (fun F2 hN2 => ⟨_, rfl, ?_⟩)
  repeat (first | refine T_seq ?_ | refine T_region ?_ | refine S_nil ?_ | refine S_pure tabOk rfl ?_)
  refine S_turn 0 (q := alA ab [(5, 2), (3, 9)]) rfl Try.call14 rfl hN2 (fun w1 g1 g2 => al_set g1 g2 (by decide) 5 2) (fun F3 hN3 => ⟨_, rfl, ?_⟩)
  repeat (first | refine T_seq ?_ | refine T_region ?_ | refine S_nil ?_ | refine S_pure tabOk rfl ?_)
  refine S_turnR 0 (q := alA ab []) (E := 27) (sz := 1) (m := 2) (xs := u64s [5, 3]) rfl Try.call15 rfl hN3 (fun w1 g1 g2 => al_due g1 g2 (by decide) 9) (fun A C F4 hN4 => ⟨_, rfl, ?_⟩)
  refine S_bslice tabOk rfl rfl rfl rfl rfl rfl rfl rfl rfl rfl rfl rfl (fun nb hnb => ?_)
  refine S_callq (v := .bool true) rfl Try.call18 (fun w1 h1 => (equal64_ok A (some ⟨nb, 0, none⟩) 2 C 2 2 [5, 3] [5, 3] w1 (Sl.of_own (h1.own _ (getE_mem (i := 1) rfl))) (Sl.of_blk (h1.own _ (getE_mem (i := 0) rfl)) rfl (fun j u hu => by rw [Nat.zero_add]; exact hu)) (by decide)).mono fun e w' ⟨he, hb⟩ => ⟨by rw [he]; rfl, hb⟩) ?_
  repeat (first | refine S_pure tabOk rfl ?_)
  refine S_callq (v := .int .i64 0) rfl Try.call16 (fun w1 h1 => al_len (l := []) (h1.own _ (getE_mem (i := 2) rfl)).1) ?_
  repeat (first | refine S_nil ?_ | refine T_ret ?_ | refine S_pure tabOk rfl ?_)
  exact ret1 rfl rfl (fun w' hw => ⟨rfl, hw.below (by repeat (first | exact new_nil | refine new_rx (by assumption) ?_ | refine new_cons (by first | assumption | omega) ?_ | refine newrow hw 1 rfl (Nat.le_refl _) ?_))⟩)
theorem alarmNil_walk (id tm : Int) (W : World) (h1 : Fits .u64 id) (h2 : Fits .i64 tm) :
    Calls Try.prog 6 #[.int .u64 id, .int .i64 tm] W fun e w' => e = .returned (.bool true) ∧ Below W.heap.size W w' := by
  refine enter2 Try.func6 rfl rfl (Hp.refl W) ?_
  repeat (first | refine T_seq ?_ | refine T_region ?_ | refine S_nil ?_ | refine S_pure tabOk rfl ?_)
  refine S_callq (v := .bool true) rfl Try.call12 (fun w1 h1 => awake12_ok w1) ?_
  repeat (first | refine T_seq ?_ | refine T_region ?_ | refine S_nil ?_ | refine pthen_normal ?_ | refine T_skip ?_ | refine T_cond_f rfl ?_ | refine S_pure tabOk rfl ?_)
  refine S_callq rfl Try.call14 (fun w1 h1 => al_set0 w1 id tm) ?_
  repeat (first | refine T_seq ?_ | refine T_region ?_ | refine S_nil ?_ | refine S_pure tabOk rfl ?_)
  refine S_callq rfl Try.call17 (fun w1 h1 => al_when0 w1 id) ?_
  repeat (first | refine T_seq ?_ | refine T_region ?_ | refine S_nil ?_ | refine S_pure tabOk rfl ?_)
  refine S_callq rfl Try.call24 (fun w1 h1 => al_next0 w1) ?_
  repeat (first | refine T_seq ?_ | refine T_region ?_ | refine S_nil ?_ | refine S_pure tabOk rfl ?_)
  refine S_callq rfl Try.call21 (fun w1 h1 => al_clear0 w1 id) ?_
  repeat (first | refine S_pure tabOk rfl ?_)
  refine S_callq rfl Try.call15 (fun w1 h1 => al_due0 tm w1) ?_
  repeat (first | refine S_pure tabOk rfl ?_)
  refine S_callq rfl Try.call16 (fun w1 h1 => al_len0 w1) ?_
  repeat (first | refine S_nil ?_ | refine T_ret ?_ | refine S_pure tabOk rfl ?_)
  exact ret1 rfl rfl (fun w' hw => ⟨rfl, hw.below (by repeat (first | exact new_nil))⟩)
end Go.Proofs.Ytggnhcgmeibihaa
