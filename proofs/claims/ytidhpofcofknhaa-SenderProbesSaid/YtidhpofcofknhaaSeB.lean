/-
  A sender: what it does to its own block: calm, tried, known, begin. Conditions: each theorem's own.
-/
import Derived.Test.YtidhpofcofknhaaSeA
namespace Go.Proofs.Ytidhpofcofknhaa
open Go Go.RowKit
set_option linter.unusedVariables false

/-- tried: the time and the tries -/
def SdS.try_ (s : SdS) (now : Int) : SdS := if s.tm ≤ now then { s with tm := now + W s.f s.m s.tr.toNat, tr := s.tr + 1 } else s
def SdS.calm_ (s : SdS) : SdS := { s with tm := 0, tr := 0 }
def SdS.begin_ (s : SdS) (op : Bool) (inc lim : Int) : SdS := { s with op := op, inc := inc, lim := lim, tm := 0, tr := 0, gs := [] }
/-- a frame, as far as a sender looks at it -/
structure Fm where
  k : Int
  ag : Int
  ep : Int
  inc : Int
  base : Int
  cum : Int
  lim : Int
  ra : Option Addr
  rn : Nat
  rc : Nat
  xa : Option Addr
  xn : Nat
  xc : Nat
abbrev Fm.cs (x : Fm) : List Value := [.int .u8 x.k, .int .i64 x.ag, .int .u64 x.ep, .int .u64 x.inc, .int .u64 x.base, .int .u64 x.cum, .int .u64 x.lim, .slice x.ra x.rn x.rc, .slice x.xa x.xn x.xc]
abbrev knP (s : SdS) (x : Fm) : Prop := (x.k = 2 ∨ (x.k = 4 ∧ s.op = true)) ∧ x.ep = s.ep ∧ s.inc ≤ x.inc
section
variable {sb bb : Nat} {s : SdS} {w w0 : World} {rest : OL}
theorem calm_ok (h : Hp w0 w (.blk sb (sdC bb s) true :: rest)) : Calls Try.prog 62 #[bptr sb] w fun e w' => e = .returned (.tuple #[]) ∧ Hp w0 w' (.blk sb (sdC bb s.calm_) true :: rest) := by
  refine enterW1 Try.func62 rfl rfl h ?_
  repeat (first | refine S_nil ?_ | refine S_pure tabOk rfl ?_ | refine T_region_any ?_ | refine S_store tabOk 0 rfl rfl rfl rfl rfl rfl ?_)
  exact ret0n rfl (fun w' hw => ⟨rfl, hw⟩)
set_option maxHeartbeats 1000000 in
theorem tried_ok (h : Hp w0 w (.blk sb (sdC bb s) true :: rest)) {now : Int} (hp : PR s.f s.m) (hnow : 0 ≤ now ∧ now ≤ 1152921504606846976) (htr : 0 ≤ s.tr ∧ s.tr < 1099511627776) : Calls Try.prog 60 #[bptr sb, .int .i64 now] w fun e w' => e = .returned (.bool (decide (s.tm ≤ now))) ∧ Hp w0 w' (.blk sb (sdC bb (s.try_ now)) true :: rest) := by
  have hW := W_pos hp.1 hp.2.1 s.tr.toNat
  refine enterW2 Try.func60 rfl rfl h ?_
  repeat (first | refine T_seq ?_ | refine T_region ?_ | refine S_nil ?_ | refine S_pure tabOk rfl ?_ | refine S_load tabOk 0 rfl rfl rfl ?_)
  refine T_cond_dec rfl (fun h1 => ?_) (fun h1 => ?_)
  · repeat (first | refine T_seq ?_ | refine T_region ?_ | refine S_nil ?_ | refine pthen_ret ?_ | refine T_ret ?_ | refine S_pure tabOk rfl ?_)
    exact ret1 rfl rfl (fun w' hw => ⟨by rw [decide_eq_false (by omega)], by rw [SdS.try_, if_neg (by omega)]; exact hw⟩)
  · repeat (first | refine T_seq ?_ | refine pthen_normal ?_ | refine T_skip ?_)
    refine T_drawT (by kernel_rfl) 15 rfl (by kernel_rfl) ?_
    repeat (first | refine D_pure tabOk rfl ?_ | refine D_load tabOk 0 rfl rfl rfl ?_)
    refine D_callx (v := .int .i64 (W s.f s.m s.tr.toNat)) rfl Try.call26 (fun w' vs hw' h => by
      obtain ⟨u1, _, rfl, rfl, u2, _, rfl, rfl, rfl⟩ := h
      exact wait_w s.f s.m s.tr w' hp.1 hp.2.2 hp.2.1) ?_
    have hm := hp.2.2
    repeat (first | refine D_all rfl ?_ | refine D_i64 tabOk rfl (by omega) ?_ | refine D_pure tabOk rfl ?_ | refine T_seq ?_ | refine T_region ?_ | refine S_nil ?_ | refine T_ret ?_ | refine S_i64 tabOk rfl (by omega) ?_ | refine S_pure tabOk rfl ?_ | refine S_load tabOk 0 rfl rfl rfl ?_ | refine S_store tabOk 0 rfl rfl rfl rfl rfl rfl ?_)
    exact ret1 rfl rfl (fun w' hw => ⟨by rw [decide_eq_true (by omega)], by rw [SdS.try_, if_pos (by omega)]; exact hw⟩)
theorem known_ok (h : w.heap[sb]? = some (sdC bb s)) (x : Fm) : Calls Try.prog 57 #[bptr sb, .agg ⟨x.cs⟩] w fun e w' => e = .returned (.bool (decide (knP s x))) ∧ Below w.heap.size w w' := by
  refine enter2 Try.func57 rfl rfl (Hp.start false h) ?_
  repeat (first | refine T_seq ?_ | refine T_region ?_)
  refine S_new tabOk rfl (fun b3 hb3 => ?_)
  repeat (first | refine T_seq ?_ | refine T_region ?_ | refine S_nil ?_ | refine S_pure tabOk rfl ?_ | refine S_load tabOk 0 rfl rfl rfl ?_)
  have fin : ∀ b : Bool, (b = true ↔ (x.k = 2 ∨ (x.k = 4 ∧ s.op = true))) → ∀ c : Bool, (c = true ↔ (b = true ∧ x.ep = s.ep ∧ s.inc ≤ x.inc)) → c = decide (knP s x) := fun b hb c hc => by
    cases c with
    | true => exact (decide_eq_true (by have := hc.1 rfl; exact ⟨hb.1 this.1, this.2⟩)).symm
    | false => exact (decide_eq_false fun h => by have := hc.2 ⟨hb.2 h.1, h.2⟩; cases this).symm
  refine S_cut (ι := Bool) (fun b => b = true ↔ (x.k = 2 ∨ (x.k = 4 ∧ s.op = true))) (fun b => [(0, bptr sb), (3, .pointer (some ⟨b3, 0, none⟩)), (4, .bool false), (5, .bool b)]) (fun b => [.blk b3 (.cells ⟨x.cs⟩ 73 (0, 0)) true, .blk sb (sdC bb s) false]) ?_ ?_
  · refine S_split rfl rfl (fun h1 => ?_) (fun h1 => ?_)
    · repeat (first | refine S_nil ?_ | refine S_pure tabOk rfl ?_ | refine S_pass rfl rfl rfl ?_)
      exact ⟨true, ⟨fun _ => .inl h1, fun _ => rfl⟩, (by repeat (first | exact Sub.nil | refine Sub.cons rfl ?_)), fun w hw => hw⟩
    · repeat (first | refine S_pure tabOk rfl ?_ | refine S_load tabOk 0 rfl rfl rfl ?_)
      refine S_split rfl rfl (fun h2 => ?_) (fun h2 => ?_)
      · repeat (first | refine S_nil ?_ | refine S_pure tabOk rfl ?_ | refine S_load tabOk 1 rfl rfl rfl ?_)
        exact ⟨s.op, ⟨fun h => .inr ⟨h2, h⟩, fun h => (h.resolve_left h1).2⟩, (by repeat (first | exact Sub.nil | refine Sub.cons rfl ?_)), fun w hw => hw⟩
      · repeat (first | refine S_nil ?_ | refine S_pure tabOk rfl ?_ | refine S_pass rfl rfl rfl ?_)
        exact ⟨false, ⟨(fun h => by cases h), fun h => (h2 (h.resolve_left h1).1).elim⟩, (by repeat (first | exact Sub.nil | refine Sub.cons rfl ?_)), fun w hw => hw⟩
  · intro b hb
    repeat (first | refine T_draw (by kernel_rfl) (by kernel_rfl) ?_ | refine D_pure tabOk rfl ?_ | refine T_seq ?_)
    refine D_splitb rfl rfl (fun h2 => ?_) (fun h2 => ?_)
    · subst h2
      repeat (first | refine D_pure tabOk rfl ?_ | refine D_load tabOk 0 rfl rfl rfl ?_ | refine D_load tabOk 1 rfl rfl rfl ?_)
      refine D_split rfl rfl (fun h3 => ?_) (fun h3 => ?_)
      · repeat (first | refine D_all rfl ?_ | refine D_pure tabOk rfl ?_ | refine D_load tabOk 0 rfl rfl rfl ?_ | refine D_load tabOk 1 rfl rfl rfl ?_ | refine T_ret ?_)
        exact ret1 rfl rfl (fun w' hw => ⟨by rw [fin true hb _ ⟨fun h => ⟨rfl, h3, of_decide_eq_true h⟩, fun h => decide_eq_true h.2.2⟩], hw.below (by repeat (first | exact new_nil | refine new_bf ?_ | refine new_cons (by first | assumption | omega) ?_))⟩)
      · repeat (first | refine D_all rfl ?_ | refine D_pure tabOk rfl ?_ | refine D_pass rfl rfl rfl ?_ | refine T_ret ?_)
        exact ret1 rfl rfl (fun w' hw => ⟨by rw [fin true hb false ⟨(fun h => by cases h), fun h => (h3 h.2.1).elim⟩], hw.below (by repeat (first | exact new_nil | refine new_bf ?_ | refine new_cons (by first | assumption | omega) ?_))⟩)
    · subst h2
      repeat (first | refine D_all rfl ?_ | refine D_pure tabOk rfl ?_ | refine D_pass rfl rfl rfl ?_ | refine T_ret ?_)
      exact ret1 rfl rfl (fun w' hw => ⟨by rw [fin false hb false ⟨(fun h => by cases h), fun h => by cases h.1⟩], hw.below (by repeat (first | exact new_nil | refine new_bf ?_ | refine new_cons (by first | assumption | omega) ?_))⟩)
theorem begin_ok {Fb : Nat → Prop} (h : Hp w0 w (.blk sb (sdC bb s) true :: .rep (fun w => (boA bb s.f s.m s.gs s.last).at_ w Fb (.bool true)) Fb true :: rest)) (op : Bool) (inc lim : Int) : Calls Try.prog 58 #[bptr sb, .bool op, .int .u64 inc, .int .u64 lim] w fun e w' => e = .returned (.tuple #[]) ∧
    ∃ F' : Nat → Prop, (∀ k, Fb k → F' k) ∧ (∀ k, F' k → Fb k ∨ w0.heap.size ≤ k) ∧ Hp w0 w' (.blk sb (sdC bb (s.begin_ op inc lim)) true :: .rep (fun w => (boA bb s.f s.m [] s.last).at_ w F' (.bool true)) F' true :: rest) := by
  refine enterW4 Try.func58 rfl rfl h ?_
  repeat (first | refine T_seq ?_ | refine T_region ?_ | refine S_pure tabOk rfl ?_ | refine S_load tabOk 0 rfl rfl rfl ?_)
  refine S_callT 1 rfl Try.call15 rfl (fun w1 g1 => (bo_clear (g1.own _ (getE_mem (i := 1) rfl)).1 (g1.own _ (getE_mem (i := 1) rfl)).2.2).mono fun e w' ⟨he, F', k1, k2, k3⟩ => ⟨_, _, F', he, k3, k1, k2, _, rfl, ?_⟩)
  have hsz := g1.size
  repeat (first | refine T_seq ?_ | refine T_region ?_ | refine S_nil ?_ | refine S_pure tabOk rfl ?_ | refine T_region_any ?_ | refine S_store tabOk 0 rfl rfl rfl rfl rfl rfl ?_)
  refine S_call rfl Try.call62 (fun w2 g2 => (calm_ok (s := { s with op := op, inc := inc, lim := lim, gs := [] }) g2).mono fun e w' ⟨he, h9⟩ => ⟨_, _, he, h9, ?_⟩)
  repeat (first | refine S_nil ?_)
  exact ret0n rfl (fun w' hw => ⟨rfl, F', k1, fun k hk => (k2 k hk).imp id fun h => by omega, hw⟩)
end
end Go.Proofs.Ytidhpofcofknhaa
