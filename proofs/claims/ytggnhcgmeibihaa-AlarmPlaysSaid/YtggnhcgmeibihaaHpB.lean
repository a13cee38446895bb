/-
  Walks of container/heap's functions, for any object. Conditions: each theorem's own.
-/
import Derived.Test.YtggnhcgmeibihaaHpA
import Derived.Test.YtggnhcgmeibihaaTab
namespace Go.Proofs.Ytggnhcgmeibihaa
open Go Go.RowKit
set_option linter.unusedVariables false

set_option maxHeartbeats 1000000 in
theorem hdown_ok {iv : Value} {St : Type} (O : HOb Try.prog iv St) (s : St) (i n : Nat) (F : Nat → Prop) (w : World) (h : (O.p s).at_ w F (.bool true)) (hF : ∀ k, F k → k < w.heap.size) (hn : n ≤ O.len s) (hi : i ≤ 1073741824) :
    Calls Try.prog 73 #[iv, .int .i64 (i : Int), .int .i64 (n : Int)] w fun e w' => e = .returned (.bool (decide (i < (O.dn n n s i).2))) ∧ Hp w w' [.rep (fun w => (O.p (O.dn n n s i).1).at_ w F (.bool true)) F true] := by
  have hle := O.hle h
  obtain ⟨R, hR⟩ : ∃ R, O.dn n n s i = R := ⟨_, rfl⟩
  rw [hR]
  refine enter3 Try.func73 rfl rfl (Hp.startO h hF) ?_
  repeat (first | refine T_seq ?_ | refine T_region ?_ | refine S_nil ?_ | refine S_pure tabOk rfl ?_)
  refine T_cut (ι := Unit) (fun _ => True) (fun _ => [(1, .int .i64 (i : Int)), (7, .int .i64 (R.2 : Int))]) (fun _ => [.rep (fun w => (O.p R.1).at_ w F (.bool true)) F true]) ?_ ?_
  · refine T_block ?_
    refine T_loop (ι := St × Nat × Nat)
      (fun x => [(0, iv), (1, .int .i64 (i : Int)), (2, .int .i64 (n : Int)), (7, .int .i64 (x.2.1 : Int))])
      (fun x => [.rep (fun w => (O.p x.1).at_ w F (.bool true)) F true])
      (fun x => O.len x.1 = O.len s ∧ x.2.1 ≤ 1073741824 ∧ n - x.2.1 ≤ x.2.2 ∧ O.dn n x.2.2 x.1 x.2.1 = R) (fun x => n - x.2.1) (s, i, n) ⟨rfl, hi, Nat.sub_le _ _, hR⟩ (by repeat (first | exact Sub.nil | refine Sub.cons rfl ?_))
      (fun w' hw => hw) ?_
    rintro ⟨s1, i1, f1⟩ ⟨hl1, hi1, hf1, hR1⟩
    dsimp only at hl1 hi1 hf1 hR1 ⊢
    repeat (first | refine T_seq ?_ | refine T_region ?_ | refine T_block ?_ | refine S_nil ?_ | refine S_i64 tabOk rfl (by omega) ?_ | refine S_pure tabOk rfl ?_)
    refine S_split rfl rfl (fun h => ?_) (fun h => ?_)
    · repeat (first | refine S_nil ?_ | refine S_pure tabOk rfl ?_ | refine S_pass rfl rfl rfl ?_)
      refine T_cond_t rfl ?_
      have hR2 : R = (s1, i1) := by
        rw [← hR1]
        cases f1 with
        | zero => rfl
        | succ f => rw [HOb.dn, if_pos (by omega)]
      subst hR2
      repeat (first | refine pthen_exit ?_ | refine T_exit ?_)
      refine inb_miss rfl ?_
      repeat (first | refine pthen_normal ?_ | refine inb_hit ?_ | refine pthen_exit ?_)
      exact ⟨(), trivial, by repeat (first | exact Sub.nil | refine Sub.cons rfl ?_), fun w' hw => hw⟩
    · repeat (first | refine S_nil ?_ | refine S_pure tabOk rfl ?_)
      refine T_cond_dec rfl (fun h2 => absurd h2 (by omega)) (fun h2 => ?_)
      repeat (first | refine T_seq ?_ | refine T_region ?_ | refine S_nil ?_ | refine pthen_normal ?_ | refine T_skip ?_ | refine S_i64 tabOk rfl (by omega) ?_ | refine S_pure tabOk rfl ?_)
      refine S_split rfl rfl (fun h3 => ?_) (fun h3 => ?_)
      · repeat (first | refine S_pure tabOk rfl ?_)
        refine S_invq rfl rfl rfl (fun w1 g => O.hltI (2 * i1 + 2) (2 * i1 + 1) (g.own _ (getE_mem (i := 0) rfl)).1 (by omega) (by omega) (by omega) (by omega)) ?_
        repeat (first | refine S_nil ?_ | refine S_pure tabOk rfl ?_)
        cases hl2 : O.lt s1 (2 * i1 + 2) (2 * i1 + 1) with
        | true =>
          refine T_cond_t rfl ?_
          have hch := O.ch_lt (n := n) (s := s1) (i := i1) (by omega)
          obtain ⟨k, hk⟩ : ∃ k, O.ch n s1 i1 = k := ⟨_, rfl⟩
          rw [hk] at hch
          have hkv : k = 2 * i1 + 2 := by rw [← hk]; unfold HOb.ch; exact if_pos ⟨by omega, hl2⟩
          obtain ⟨f2, rfl⟩ : ∃ f2, f1 = f2 + 1 := ⟨f1 - 1, by omega⟩
          rw [HOb.dn, if_neg (by omega), hk] at hR1
          repeat (first | refine T_seq ?_ | refine T_region ?_ | refine S_nil ?_ | refine S_pure tabOk rfl ?_)
          refine S_invq rfl rfl rfl (fun w1 g => O.hltI k i1 (g.own _ (getE_mem (i := 0) rfl)).1 (by omega) rfl (by omega) (by omega)) ?_
          repeat (first | refine S_nil ?_ | refine S_pure tabOk rfl ?_)
          cases hlt : O.lt s1 k i1 with
          | false =>
            rw [hlt, if_neg (by decide)] at hR1
            subst hR1
            refine T_cond_t rfl ?_
            repeat (first | refine pthen_exit ?_ | refine T_exit ?_)
            refine inb_miss rfl ?_
            repeat (first | refine pthen_normal ?_ | refine inb_hit ?_ | refine pthen_exit ?_)
            exact ⟨(), trivial, by repeat (first | exact Sub.nil | refine Sub.cons rfl ?_), fun w' hw => hw⟩
          | true =>
            rw [hlt, if_pos rfl] at hR1
            refine T_cond_f rfl ?_
            repeat (first | refine T_seq ?_ | refine T_region ?_ | refine pthen_normal ?_ | refine T_skip ?_ | refine S_pure tabOk rfl ?_)
            refine S_invT 0 rfl rfl rfl rfl (fun w1 g => (O.hswI i1 k (g.own _ (getE_mem (i := 0) rfl)).1 (g.own _ (getE_mem (i := 0) rfl)).2.2 rfl (by omega) (by omega) (by omega)).mono fun e w' ⟨he, g2⟩ => ⟨_, _, F, he, g2, fun _ h => h, fun _ h => .inl h, _, rfl, ?_⟩)
            repeat (first | refine S_nil ?_ | refine pthen_normal ?_ | refine inb_normal ?_ | refine S_pure tabOk rfl ?_ | refine T_region_any ?_)
            exact ⟨(O.sw s1 i1 k, k, f2), ⟨(O.lenSw _ _ _).trans hl1, by dsimp only; omega, by dsimp only; omega, hR1⟩, by dsimp only; repeat (first | exact Sub.nil | refine Sub.cons rfl ?_ | refine Sub.cons_int rfl (by omega) ?_), fun w' hw => hw, by dsimp only; omega⟩
        | false =>
          refine T_cond_f rfl ?_
          have hch := O.ch_lt (n := n) (s := s1) (i := i1) (by omega)
          obtain ⟨k, hk⟩ : ∃ k, O.ch n s1 i1 = k := ⟨_, rfl⟩
          rw [hk] at hch
          have hkv : k = 2 * i1 + 1 := by rw [← hk]; unfold HOb.ch; exact if_neg (fun h => by rw [hl2] at h; exact absurd h.2 (by decide))
          obtain ⟨f2, rfl⟩ : ∃ f2, f1 = f2 + 1 := ⟨f1 - 1, by omega⟩
          rw [HOb.dn, if_neg (by omega), hk] at hR1
          repeat (first | refine T_seq ?_ | refine T_region ?_ | refine pthen_normal ?_ | refine T_skip ?_ | refine S_pure tabOk rfl ?_)
          refine S_invq rfl rfl rfl (fun w1 g => O.hltI k i1 (g.own _ (getE_mem (i := 0) rfl)).1 (by omega) rfl (by omega) (by omega)) ?_
          repeat (first | refine S_nil ?_ | refine S_pure tabOk rfl ?_)
          cases hlt : O.lt s1 k i1 with
          | false =>
            rw [hlt, if_neg (by decide)] at hR1
            subst hR1
            refine T_cond_t rfl ?_
            repeat (first | refine pthen_exit ?_ | refine T_exit ?_)
            refine inb_miss rfl ?_
            repeat (first | refine pthen_normal ?_ | refine inb_hit ?_ | refine pthen_exit ?_)
            exact ⟨(), trivial, by repeat (first | exact Sub.nil | refine Sub.cons rfl ?_), fun w' hw => hw⟩
          | true =>
            rw [hlt, if_pos rfl] at hR1
            refine T_cond_f rfl ?_
            repeat (first | refine T_seq ?_ | refine T_region ?_ | refine pthen_normal ?_ | refine T_skip ?_ | refine S_pure tabOk rfl ?_)
            refine S_invT 0 rfl rfl rfl rfl (fun w1 g => (O.hswI i1 k (g.own _ (getE_mem (i := 0) rfl)).1 (g.own _ (getE_mem (i := 0) rfl)).2.2 rfl (by omega) (by omega) (by omega)).mono fun e w' ⟨he, g2⟩ => ⟨_, _, F, he, g2, fun _ h => h, fun _ h => .inl h, _, rfl, ?_⟩)
            repeat (first | refine S_nil ?_ | refine pthen_normal ?_ | refine inb_normal ?_ | refine S_pure tabOk rfl ?_ | refine T_region_any ?_)
            exact ⟨(O.sw s1 i1 k, k, f2), ⟨(O.lenSw _ _ _).trans hl1, by dsimp only; omega, by dsimp only; omega, hR1⟩, by dsimp only; repeat (first | exact Sub.nil | refine Sub.cons rfl ?_ | refine Sub.cons_int rfl (by omega) ?_), fun w' hw => hw, by dsimp only; omega⟩
      · repeat (first | refine S_nil ?_ | refine S_pure tabOk rfl ?_ | refine S_pass rfl rfl rfl ?_)
        refine T_cond_f rfl ?_
        have hch := O.ch_lt (n := n) (s := s1) (i := i1) (by omega)
        obtain ⟨k, hk⟩ : ∃ k, O.ch n s1 i1 = k := ⟨_, rfl⟩
        rw [hk] at hch
        have hkv : k = 2 * i1 + 1 := by rw [← hk]; unfold HOb.ch; exact if_neg (fun h => absurd h.1 (by omega))
        obtain ⟨f2, rfl⟩ : ∃ f2, f1 = f2 + 1 := ⟨f1 - 1, by omega⟩
        rw [HOb.dn, if_neg (by omega), hk] at hR1
        repeat (first | refine T_seq ?_ | refine T_region ?_ | refine pthen_normal ?_ | refine T_skip ?_ | refine S_pure tabOk rfl ?_)
        refine S_invq rfl rfl rfl (fun w1 g => O.hltI k i1 (g.own _ (getE_mem (i := 0) rfl)).1 (by omega) rfl (by omega) (by omega)) ?_
        repeat (first | refine S_nil ?_ | refine S_pure tabOk rfl ?_)
        cases hlt : O.lt s1 k i1 with
        | false =>
          rw [hlt, if_neg (by decide)] at hR1
          subst hR1
          refine T_cond_t rfl ?_
          repeat (first | refine pthen_exit ?_ | refine T_exit ?_)
          refine inb_miss rfl ?_
          repeat (first | refine pthen_normal ?_ | refine inb_hit ?_ | refine pthen_exit ?_)
          exact ⟨(), trivial, by repeat (first | exact Sub.nil | refine Sub.cons rfl ?_), fun w' hw => hw⟩
        | true =>
          rw [hlt, if_pos rfl] at hR1
          refine T_cond_f rfl ?_
          repeat (first | refine T_seq ?_ | refine T_region ?_ | refine pthen_normal ?_ | refine T_skip ?_ | refine S_pure tabOk rfl ?_)
          refine S_invT 0 rfl rfl rfl rfl (fun w1 g => (O.hswI i1 k (g.own _ (getE_mem (i := 0) rfl)).1 (g.own _ (getE_mem (i := 0) rfl)).2.2 rfl (by omega) (by omega) (by omega)).mono fun e w' ⟨he, g2⟩ => ⟨_, _, F, he, g2, fun _ h => h, fun _ h => .inl h, _, rfl, ?_⟩)
          repeat (first | refine S_nil ?_ | refine pthen_normal ?_ | refine inb_normal ?_ | refine S_pure tabOk rfl ?_ | refine T_region_any ?_)
          exact ⟨(O.sw s1 i1 k, k, f2), ⟨(O.lenSw _ _ _).trans hl1, by dsimp only; omega, by dsimp only; omega, hR1⟩, by dsimp only; repeat (first | exact Sub.nil | refine Sub.cons rfl ?_ | refine Sub.cons_int rfl (by omega) ?_), fun w' hw => hw, by dsimp only; omega⟩
  · rintro ⟨⟩ _
    repeat (first | refine T_seq ?_ | refine T_region ?_ | refine S_nil ?_ | refine T_ret ?_ | refine S_pure tabOk rfl ?_)
    exact ret1 rfl rfl (fun w' hw => ⟨congrArg (fun b => Ending.returned (Value.bool b)) (by rw [decide_eq_decide]; omega), hw⟩)
end Go.Proofs.Ytggnhcgmeibihaa
