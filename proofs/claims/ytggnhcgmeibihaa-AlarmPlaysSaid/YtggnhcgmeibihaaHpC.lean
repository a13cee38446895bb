/-
  Walks of container/heap's up, Init, Fix. Conditions: each theorem's own.
-/
import Derived.Test.YtggnhcgmeibihaaHpB
namespace Go.Proofs.Ytggnhcgmeibihaa
open Go Go.RowKit
set_option linter.unusedVariables false

section
variable {P : Program} {iv : Value} {St : Type} (O : HOb P iv St)
def HOb.ini (n : Nat) : Nat → St → St
  | 0, s => s
  | k + 1, s => HOb.ini n k (O.dn n n s k).1
def HOb.fx (s : St) (i : Nat) : St := if i < (O.dn (O.len s) (O.len s) s i).2 then (O.dn (O.len s) (O.len s) s i).1 else O.up (i + 1) (O.dn (O.len s) (O.len s) s i).1 i
theorem HOb.ini_len (n : Nat) : ∀ (k : Nat) (s : St), O.len (O.ini n k s) = O.len s
  | 0, s => rfl
  | k + 1, s => by rw [HOb.ini, HOb.ini_len n k, O.dn_len]
theorem HOb.fx_len (s : St) (i : Nat) : O.len (O.fx s i) = O.len s := by
  unfold HOb.fx
  split
  · exact O.dn_len ..
  · rw [O.up_len, O.dn_len]
end
theorem half_of (j : Nat) (hj : j ≤ 1073741824) : IntKind.i64.wrap (((j : Int) - 1).tdiv 2) = (((j - 1) / 2 : Nat) : Int) := by
  rcases Nat.eq_zero_or_pos j with h | h
  · subst h; rfl
  · rw [Int.tdiv_eq_ediv_of_nonneg (by omega), IntWalk.i64_in _ (by omega)]
    omega

set_option maxHeartbeats 1000000 in
theorem hup_ok {iv : Value} {St : Type} (O : HOb Try.prog iv St) (s : St) (j : Nat) (F : Nat → Prop) (w : World) (h : (O.p s).at_ w F (.bool true)) (hF : ∀ k, F k → k < w.heap.size) (hj : j < O.len s) :
    Calls Try.prog 74 #[iv, .int .i64 (j : Int)] w fun e w' => e = .returned (.tuple #[]) ∧ Hp w w' [.rep (fun w => (O.p (O.up (j + 1) s j)).at_ w F (.bool true)) F true] := by
  have hle := O.hle h
  obtain ⟨R, hR⟩ : ∃ R, O.up (j + 1) s j = R := ⟨_, rfl⟩
  rw [hR]
  refine enter2 Try.func74 rfl rfl (Hp.startO h hF) ?_
  refine T_block ?_
  refine T_loop (ι := St × Nat × Nat)
    (fun x => [(0, iv), (1, .int .i64 (x.2.1 : Int))])
    (fun x => [.rep (fun w => (O.p x.1).at_ w F (.bool true)) F true])
    (fun x => O.len x.1 = O.len s ∧ x.2.1 < O.len s ∧ x.2.1 < x.2.2 ∧ O.up x.2.2 x.1 x.2.1 = R) (fun x => x.2.2) (s, j, j + 1) ⟨rfl, hj, Nat.lt_succ_self _, hR⟩ (by repeat (first | exact Sub.nil | refine Sub.cons rfl ?_))
    (fun w' hw => hw) ?_
  rintro ⟨s1, j1, f1⟩ ⟨hl1, hj1, hf1, hR1⟩
  dsimp only at hl1 hj1 hf1 hR1 ⊢
  obtain ⟨f2, rfl⟩ : ∃ f2, f1 = f2 + 1 := ⟨f1 - 1, by omega⟩
  rw [HOb.up] at hR1
  obtain ⟨i1, hi1⟩ : ∃ i1, (j1 - 1) / 2 = i1 := ⟨_, rfl⟩
  have hh := half_of j1 (by omega)
  rw [hi1] at hh hR1
  repeat (first | refine T_seq ?_ | refine T_region ?_ | refine T_block ?_ | refine S_i64 tabOk rfl (by omega) ?_ | refine S_pure tabOk rfl ?_)
  refine S_q (Q_quo rfl rfl rfl (by decide)) ?_
  rw [hh]
  repeat (first | refine T_seq ?_ | refine T_region ?_ | refine S_nil ?_ | refine S_pure tabOk rfl ?_)
  refine S_split rfl rfl (fun h => ?_) (fun h => ?_)
  · repeat (first | refine S_nil ?_ | refine S_pure tabOk rfl ?_ | refine S_pass rfl rfl rfl ?_)
    refine T_cond_t rfl ?_
    rw [if_pos (by omega)] at hR1
    subst hR1
    repeat (first | refine pthen_exit ?_ | refine T_exit ?_)
    refine inb_miss rfl ?_
    repeat (first | refine inb_hit ?_ | refine pthen_exit ?_)
    exact ret0n rfl (fun w' hw => ⟨rfl, hw⟩)
  · rw [if_neg (by omega)] at hR1
    repeat (first | refine S_pure tabOk rfl ?_)
    refine S_invq rfl rfl rfl (fun w1 g => O.hltI j1 i1 (g.own _ (getE_mem (i := 0) rfl)).1 rfl rfl (by omega) (by omega)) ?_
    repeat (first | refine S_nil ?_ | refine S_pure tabOk rfl ?_)
    cases hlt : O.lt s1 j1 i1 with
    | false =>
      rw [hlt, if_neg (by decide)] at hR1
      subst hR1
      refine T_cond_t rfl ?_
      repeat (first | refine pthen_exit ?_ | refine T_exit ?_)
      refine inb_miss rfl ?_
      repeat (first | refine inb_hit ?_ | refine pthen_exit ?_)
      exact ret0n rfl (fun w' hw => ⟨rfl, hw⟩)
    | true =>
      rw [hlt, if_pos rfl] at hR1
      refine T_cond_f rfl ?_
      repeat (first | refine T_seq ?_ | refine T_region ?_ | refine pthen_normal ?_ | refine T_skip ?_ | refine S_pure tabOk rfl ?_)
      refine S_invT 0 rfl rfl rfl rfl (fun w1 g => (O.hswI i1 j1 (g.own _ (getE_mem (i := 0) rfl)).1 (g.own _ (getE_mem (i := 0) rfl)).2.2 rfl rfl (by omega) (by omega)).mono fun e w' ⟨he, g2⟩ => ⟨_, _, F, he, g2, fun _ h => h, fun _ h => .inl h, _, rfl, ?_⟩)
      repeat (first | refine S_nil ?_ | refine pthen_normal ?_ | refine inb_normal ?_ | refine S_pure tabOk rfl ?_ | refine T_region_any ?_)
      exact ⟨(O.sw s1 i1 j1, i1, f2), ⟨(O.lenSw _ _ _).trans hl1, by dsimp only; omega, by dsimp only; omega, hR1⟩, by dsimp only; repeat (first | exact Sub.nil | refine Sub.cons rfl ?_), fun w' hw => hw, by dsimp only; omega⟩

theorem hdownI {iv : Value} {St : Type} (O : HOb Try.prog iv St) (s : St) (i n : Nat) (F : Nat → Prop) (w : World) (h : (O.p s).at_ w F (.bool true)) (hF : ∀ k, F k → k < w.heap.size) (hn : n ≤ O.len s) (hi : i ≤ 1073741824) {x y : Int} (hx : x = (i : Int)) (hy : y = (n : Int)) :
    Calls Try.prog 73 #[iv, .int .i64 x, .int .i64 y] w fun e w' => e = .returned (.bool (decide (i < (O.dn n n s i).2))) ∧ Hp w w' [.rep (fun w => (O.p (O.dn n n s i).1).at_ w F (.bool true)) F true] := by
  subst hx
  subst hy
  exact hdown_ok O s i n F w h hF hn hi
set_option maxHeartbeats 1000000 in
theorem hfix_ok {iv : Value} {St : Type} (O : HOb Try.prog iv St) (s : St) (i : Nat) (F : Nat → Prop) (w : World) (h : (O.p s).at_ w F (.bool true)) (hF : ∀ k, F k → k < w.heap.size) (hi : i < O.len s) :
    Calls Try.prog 51 #[iv, .int .i64 (i : Int)] w fun e w' => e = .returned (.tuple #[]) ∧ Hp w w' [.rep (fun w => (O.p (O.fx s i)).at_ w F (.bool true)) F true] := by
  have hle := O.hle h
  refine enter2 Try.func51 rfl rfl (Hp.startO h hF) ?_
  repeat (first | refine T_seq ?_ | refine T_region ?_ | refine S_pure tabOk rfl ?_)
  refine S_invq rfl rfl rfl (fun w1 g => O.hlen (g.own _ (getE_mem (i := 0) rfl)).1) ?_
  skip
  refine S_callT 0 rfl Try.call73 rfl (fun w1 g => (hdownI O s i (O.len s) F w1 (g.own _ (getE_mem (i := 0) rfl)).1 (g.own _ (getE_mem (i := 0) rfl)).2.2 (Nat.le_refl _) (by omega) rfl rfl).mono fun e w' ⟨he, g2⟩ => ⟨_, _, F, he, g2, fun _ h => h, fun _ h => .inl h, _, rfl, ?_⟩)
  have hdl := O.dn_len (O.len s) (O.len s) s i
  unfold HOb.fx
  by_cases hd : i < (O.dn (O.len s) (O.len s) s i).2
  · rw [decide_eq_true hd, if_pos hd]
    repeat (first | refine S_nil ?_ | refine S_pure tabOk rfl ?_)
    refine T_cond_f rfl ?_
    repeat (first | refine T_skip ?_)
    exact ret0n rfl (fun w' hw => ⟨rfl, hw⟩)
  · rw [decide_eq_false hd, if_neg hd]
    repeat (first | refine S_nil ?_ | refine S_pure tabOk rfl ?_)
    refine T_cond_t rfl ?_
    repeat (first | refine S_pure tabOk rfl ?_ | refine T_region_any ?_)
    refine S_callT 0 rfl Try.call74 rfl (fun w1 g => (hup_ok O (O.dn (O.len s) (O.len s) s i).1 i F w1 (g.own _ (getE_mem (i := 0) rfl)).1 (g.own _ (getE_mem (i := 0) rfl)).2.2 (by omega)).mono fun e w' ⟨he, g2⟩ => ⟨_, _, F, he, g2, fun _ h => h, fun _ h => .inl h, _, rfl, ?_⟩)
    repeat (first | refine S_nil ?_)
    exact ret0n rfl (fun w' hw => ⟨rfl, hw⟩)

/-- what Pop takes the last of -/
def HOb.pp {P : Program} {iv : Value} {St : Type} (O : HOb P iv St) (s : St) : St := (O.dn (O.len s - 1) (O.len s - 1) (O.sw s 0 (O.len s - 1)) 0).1
set_option maxHeartbeats 1000000 in
theorem hpop_ok {iv : Value} {St : Type} (O : HOb Try.prog iv St) (s : St) (F : Nat → Prop) (w : World) (h : (O.p s).at_ w F (.bool true)) (hF : ∀ k, F k → k < w.heap.size) (hi : 0 < O.len s) (u : Value) (q : Vp)
    (hp : ∀ w1, (O.p (O.pp s)).at_ w1 F (.bool true) → (∀ k, F k → k < w1.heap.size) → Meth Try.prog iv "Pop" [] w1 fun e w' => e = .returned u ∧ Hp w1 w' [.rep (fun w => q.at_ w F (.bool true)) F true]) :
    Calls Try.prog 53 #[iv] w fun e w' => e = .returned u ∧ Hp w w' [.rep (fun w => q.at_ w F (.bool true)) F true] := by
  have hle := O.hle h
  refine enter1 Try.func53 rfl rfl (Hp.startO h hF) ?_
  repeat (first | refine T_seq ?_ | refine T_region ?_ | refine S_nil ?_ | refine S_pure tabOk rfl ?_)
  refine S_invq rfl rfl rfl (fun w1 g => O.hlen (g.own _ (getE_mem (i := 0) rfl)).1) ?_
  repeat (first | refine T_seq ?_ | refine T_region ?_ | refine S_nil ?_ | refine S_i64 tabOk rfl (by omega) ?_ | refine S_pure tabOk rfl ?_)
  refine S_invT 0 rfl rfl rfl rfl (fun w1 g => (O.hswI 0 (O.len s - 1) (g.own _ (getE_mem (i := 0) rfl)).1 (g.own _ (getE_mem (i := 0) rfl)).2.2 rfl (by omega) (by omega) (by omega)).mono fun e w' ⟨he, g2⟩ => ⟨_, _, F, he, g2, fun _ h => h, fun _ h => .inl h, _, rfl, ?_⟩)
  repeat (first | refine T_seq ?_ | refine T_region ?_ | refine S_nil ?_ | refine S_pure tabOk rfl ?_)
  refine S_callT 0 rfl Try.call73 rfl (fun w1 g => (hdownI O (O.sw s 0 (O.len s - 1)) 0 (O.len s - 1) F w1 (g.own _ (getE_mem (i := 0) rfl)).1 (g.own _ (getE_mem (i := 0) rfl)).2.2 (by rw [O.lenSw]; omega) (by omega) rfl (by omega)).mono fun e w' ⟨he, g2⟩ => ⟨_, _, F, he, g2, fun _ h => h, fun _ h => .inl h, _, rfl, ?_⟩)
  repeat (first | refine T_seq ?_ | refine T_region ?_ | refine S_nil ?_ | refine S_pure tabOk rfl ?_)
  refine S_invT 0 rfl rfl rfl rfl (fun w1 g => (hp w1 (g.own _ (getE_mem (i := 0) rfl)).1 (g.own _ (getE_mem (i := 0) rfl)).2.2).mono fun e w' ⟨he, g2⟩ => ⟨_, _, F, he, g2, fun _ h => h, fun _ h => .inl h, _, rfl, ?_⟩)
  repeat (first | refine S_nil ?_ | refine T_ret ?_ | refine S_pure tabOk rfl ?_)
  exact ret1 rfl rfl (fun w' hw => ⟨rfl, hw⟩)

set_option maxHeartbeats 1000000 in
theorem hpush_ok {iv : Value} {St : Type} (O : HOb Try.prog iv St) (s s1 : St) (F : Nat → Prop) (w : World) (h : (O.p s).at_ w F (.bool true)) (hF : ∀ k, F k → k < w.heap.size) (hi : 0 < O.len s1) (u : Value)
    (hp : ∀ w1, (O.p s).at_ w1 F (.bool true) → (∀ k, F k → k < w1.heap.size) → Meth Try.prog iv "Push" [u] w1 fun e w' => e = .returned (.tuple #[]) ∧ ∃ F', (∀ k, F k → F' k) ∧ (∀ k, F' k → F k ∨ w1.heap.size ≤ k) ∧ Hp w1 w' [.rep (fun w => (O.p s1).at_ w F' (.bool true)) F' true]) :
    Calls Try.prog 52 #[iv, u] w fun e w' => e = .returned (.tuple #[]) ∧ ∃ F', (∀ k, F k → F' k) ∧ (∀ k, F' k → F k ∨ w.heap.size ≤ k) ∧ Hp w w' [.rep (fun w => (O.p (O.up (O.len s1) s1 (O.len s1 - 1))).at_ w F' (.bool true)) F' true] := by
  refine enter2 Try.func52 rfl rfl (Hp.startO h hF) ?_
  repeat (first | refine T_seq ?_ | refine T_region ?_ | refine S_pure tabOk rfl ?_)
  refine S_inv rfl rfl rfl (fun w1 g => ?_)
  have g0 := g.own _ (getE_mem (i := 0) rfl)
  have hsz := g.size
  refine (hp w1 g0.1 g0.2.2).mono fun e w' ⟨he, F', g1, g2, g3⟩ => ⟨_, _, he, g.graftT 0 rfl g3 g1 g2 rfl, ?_⟩
  have hle := O.hle (g3.own _ (getE_mem (i := 0) rfl)).1
  repeat (first | refine S_nil ?_ | refine S_pure tabOk rfl ?_ | refine T_region_any ?_)
  refine S_invq rfl rfl rfl (fun w1 g => O.hlen (g.own _ (getE_mem (i := 0) rfl)).1) ?_
  repeat (first | refine S_i64 tabOk rfl (by omega) ?_)
  have hup := fun w1 h1 h2 => hup_ok O s1 (O.len s1 - 1) F' w1 h1 h2 (by omega)
  rw [show O.len s1 - 1 + 1 = O.len s1 by omega, show ((O.len s1 - 1 : Nat) : Int) = (O.len s1 : Int) - 1 by omega] at hup
  refine S_callT 0 rfl Try.call74 rfl (fun w1 g => (hup w1 (g.own _ (getE_mem (i := 0) rfl)).1 (g.own _ (getE_mem (i := 0) rfl)).2.2).mono fun e w' ⟨he, g9⟩ => ⟨_, _, F', he, g9, fun _ h => h, fun _ h => .inl h, _, rfl, ?_⟩)
  repeat (first | refine S_nil ?_)
  exact ret0n rfl (fun w' hw => ⟨rfl, F', g1, fun k hk => (g2 k hk).imp id (fun h => Nat.le_trans hsz h), hw⟩)
end Go.Proofs.Ytggnhcgmeibihaa
