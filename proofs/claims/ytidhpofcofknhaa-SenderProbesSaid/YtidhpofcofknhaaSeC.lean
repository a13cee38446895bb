/-
  A sender's Receive. Conditions: each theorem's own.
-/
import Derived.Test.YtidhpofcofknhaaSeB
namespace Go.Proofs.Ytidhpofcofknhaa
open Go Go.RowKit
set_option linter.unusedVariables false

instance memDec (l : List Run) (x : Int) : Decidable (Mem l x) := by unfold Mem; infer_instance
/-- what a frame tells to have come -/
def ackP (cum : Int) (rl : List Run) (y : Int) : Prop := (0 ≤ y ∧ y ≤ cum) ∨ Mem rl y
instance ackDec (cum : Int) (rl : List Run) (y : Int) : Decidable (ackP cum rl y) := by unfold ackP; infer_instance
def SdS.ack_ (s : SdS) (cum : Int) (rl : List Run) : SdS := { s with gs := rmB s.gs (fun n => decide (ackP cum rl n)) }
def SdS.rcv (s : SdS) (x : Fm) (rl : List Run) : SdS :=
  if knP s x then if x.k = 2 ∧ (s.inc < x.inc ∨ s.op = false) then (s.ack_ x.cum rl).begin_ true x.inc x.lim else if s.inc < x.inc then (s.ack_ x.cum rl).begin_ false x.inc 0 else { s.ack_ x.cum rl with lim := max s.lim x.lim }
  else s
section
variable {sb : Nat} {s : SdS} {w w0 : World} {F : Nat → Prop} {ol : OL}
set_option maxHeartbeats 4000000 in
theorem se_receive (h : (seA sb s).at_ w F (.bool true)) (hF : ∀ k, F k → k < w.heap.size) (now : Int) (x : Fm) {rl : List Run} {A : Nat → Prop} (hx : SlR Rrun w A x.ra x.rn x.rc rl) (hAF : ∀ k, A k → ¬ F k) (hn : x.rn ≤ 800000) (hcum : Fits .u64 x.cum) (hinc : Fits .u64 x.inc) (hlim : Fits .u64 x.lim) :
    Calls Try.prog 24 #[bptr sb, .int .i64 now, .agg ⟨x.cs⟩] w fun e w' => ∃ (v : Value) (Fv F' : Nat → Prop), e = .returned (.tuple #[v, .bool (decide (knP s x))]) ∧ (∀ k, Fv k → w.heap.size ≤ k) ∧ (∀ k, F k → F' k) ∧ (∀ k, F' k → F k ∨ w.heap.size ≤ k) ∧
      Hp w w' [.rep (fun w => (setP (fun y => knP s x ∧ ackP x.cum rl y) (x.rn + 1)).at_ w Fv v) Fv false, .rep (fun w => (seA sb (s.rcv x rl)).at_ w F' (.bool true)) F' true] := by
  obtain ⟨bb, Fb, hok, hst, hFsb, hFb⟩ := se_open h true
  obtain ⟨Fq, hFq, _, hst2⟩ := hst.addV (p := (Rslice Rrun).vp rl) (A := A) (v := .slice x.ra x.rn x.rc) (((Rslice Rrun).vp rl).mono hx.val fun k hk => ⟨.inl hk, fun e he hex hh => hAF k hk (by
    rcases List.mem_cons.1 he with rfl | he
    · exact Option.some.inj hh ▸ hFsb
    · rw [List.mem_singleton] at he
      subst he
      exact hFb k hh)⟩)
  have hst3 : Hp w w [.blk sb (sdC bb s) true, .rep (fun w => (boA bb s.f s.m s.gs s.last).at_ w Fb (.bool true)) Fb true, .rep (fun w => ((Rslice Rrun).vp rl).at_ w Fq (.slice x.ra x.rn x.rc)) Fq false] := hst2.pm [1, 2, 0] rfl rfl rfl
  have hrl := hx.len
  have hrok := slr_okL hx
  refine enterW3 Try.func24 rfl rfl hst3 ?_
  repeat (first | refine T_seq ?_ | refine T_region ?_)
  refine S_new tabOk rfl (fun b5 hb5 => ?_)
  refine S_new tabOk rfl (fun b6 hb6 => ?_)
  repeat (first | refine T_seq ?_ | refine T_region ?_ | refine S_nil ?_ | refine S_pure tabOk rfl ?_)
  refine S_q (Q_eqptr tabOk rfl rfl rfl rfl rfl) ?_
  repeat (first | refine S_pure tabOk rfl ?_ | refine S_load tabOk 1 rfl rfl rfl ?_)
  refine S_callq rfl Try.call57 (fun w1 g1 => known_ok (g1.own _ (getE_mem (i := 2) rfl)) x) ?_
  repeat (first | refine S_nil ?_ | refine S_pure tabOk rfl ?_)
  refine T_cond_ndec rfl (fun hk => ?_) (fun hk => ?_)
  · repeat (first | refine T_seq ?_ | refine T_region ?_ | refine S_nil ?_ | refine pthen_ret ?_ | refine T_ret ?_ | refine S_pure tabOk rfl ?_ | refine S_store tabOk 0 rfl rfl rfl rfl rfl rfl ?_ | refine S_q (Q_build tabOk rfl rfl rfl rfl rfl rfl rfl) ?_)
    refine ret2 rfl (res_cell tabOk 0 rfl rfl rfl rfl) rfl (fun w' hw => ?_)
    have e1 : s.rcv x rl = s := if_neg hk
    have h9 : Hp w w' (seL sb bb s Fb true ++ []) := hw.less (by repeat (first | exact Less.nil | refine Less.keep ?_ | refine Less.dropR ?_ | refine Less.dropB (by first | assumption | omega) ?_))
    obtain ⟨F', j1, j2, j3⟩ := se_close (F0 := F) h9 hok hF (fun e he => by cases he) (.inl hFsb) (fun k hk => .inl (hFb k hk))
    refine ⟨_, fun _ => False, F', by rw [decide_eq_false hk], (fun k h => h.elim), j1, j2, ?_⟩
    rw [e1]
    exact j3.none (p := setP (fun y => knP s x ∧ ackP x.cum rl y) (x.rn + 1)) (v := setV none 0 0) (fun w => setP_to (fun y => ⟨False.elim, fun h => hk h.1⟩) (Nat.zero_le _) setP_nil) false
  obtain ⟨k, ag, ep, inc, base, cum, lim, ra, rn, rc, xa, xn, xc⟩ := x
  dsimp only at hx hn hcum hinc hlim hrl hk ⊢
  repeat (first | refine T_seq ?_ | refine T_region ?_ | refine pthen_normal ?_ | refine T_skip ?_ | refine S_pure tabOk rfl ?_ | refine S_load tabOk 1 rfl rfl rfl ?_ | refine S_q (Q_build tabOk rfl rfl rfl rfl rfl rfl rfl) ?_)
  refine S_callR (setP (fun y => 0 ≤ y ∧ y ≤ cum) 1) (fun _ => False) rfl Try.call11 (fun w1 g1 => (span_p 0 cum w1 (fun k hk => BB_new g1 hk) setP_nil (by decide) (show Fits .u64 0 by decide) hcum).mono fun e w' ⟨r, e1, e2, e3⟩ => ⟨r, e1, e2, setP_to (fun y => by simp) (Nat.le_refl _) e3⟩) (fun v F0 w1 hF0 hv => ?_)
  obtain ⟨a0, n0, c0, rfl⟩ := setP_val hv
  skip
  refine S_new tabOk rfl (fun b8 hb8 => ?_)
  repeat (first | refine T_seq ?_ | refine T_region ?_ | refine T_block ?_ | refine S_nil ?_ | refine S_pure tabOk rfl ?_ | refine S_load tabOk 3 rfl rfl rfl ?_ | refine S_store tabOk 0 rfl rfl rfl rfl rfl rfl ?_)
  refine T_loop (ι := Nat × Option Addr × Nat × Nat × (Nat → Prop)) (fun i => [(0, bptr sb), (1, .int .i64 now), (5, .pointer (some ⟨b5, 0, none⟩)), (6, .pointer (some ⟨b6, 0, none⟩)), (8, .pointer (some ⟨b8, 0, none⟩)), (26, .slice ra rn rc), (27, .int .i64 (rn : Int)), (28, .int .i64 (i.1 : Int))])
    (fun i => [.rep (fun w => (setP (fun y => (0 ≤ y ∧ y ≤ cum) ∨ Mem (rl.take i.1) y) (1 + i.1)).at_ w i.2.2.2.2 (setV i.2.1 i.2.2.1 i.2.2.2.1)) i.2.2.2.2 false, .blk b8 (.cells ⟨[.slice i.2.1 i.2.2.1 i.2.2.2.1]⟩ 44 (0, 0)) true, .blk b6 (.cells ⟨[.slice none 0 0]⟩ 44 (0, 0)) true, .blk b5 (.cells ⟨Fm.cs ⟨k, ag, ep, inc, base, cum, lim, ra, rn, rc, xa, xn, xc⟩⟩ 73 (0, 0)) true, .blk sb (sdC bb s) true, .rep (fun w => (boA bb s.f s.m s.gs s.last).at_ w Fb (.bool true)) Fb true, .rep (fun w => ((Rslice Rrun).vp rl).at_ w Fq (.slice ra rn rc)) Fq false])
    (fun i => i.1 ≤ rn ∧ ∀ k, i.2.2.2.2 k → w.heap.size ≤ k) (fun i => rn - i.1) (0, a0, n0, c0, F0) ⟨Nat.zero_le _, fun k hk => (hF0 k hk).resolve_left id⟩ (by repeat (first | exact Sub.nil | refine Sub.cons rfl ?_)) (fun w' hw => ?_) ?_
  · have e : (fun y => 0 ≤ y ∧ y ≤ cum) = (fun y => (0 ≤ y ∧ y ≤ cum) ∨ Mem (rl.take 0) y) := by
      funext y
      exact propext ⟨.inl, fun h => h.resolve_right fun h => mem_nil y h⟩
    simp only [← e]
    exact hw.pm [1, 0, 2, 3, 4, 5, 6] rfl rfl rfl
  rintro ⟨i, a1, n1, c1, F1⟩ ⟨hi, hF1⟩
  dsimp only at hi hF1 ⊢
  repeat (first | refine T_seq ?_ | refine T_region ?_ | refine S_nil ?_ | refine S_pure tabOk rfl ?_)
  refine T_cond_dec rfl (fun hlt => ?_) (fun hge => ?_)
  · have hi' : i < rl.length := by omega
    have hokk := hrok _ (List.getElem_mem hi')
    obtain ⟨ab, off, cs, rfl, hlt2, _⟩ := hx.get_ hi'
    repeat (first | refine T_seq ?_ | refine T_region ?_ | refine T_block ?_ | refine pthen_normal ?_ | refine T_skip ?_)
    refine S_q (Q_idx (sz := 2) tabOk rfl rfl rfl rfl rfl rfl rfl rfl (j := i) (by omega)) ?_
    refine S_loadN tabOk (vs := encR rl[i]) rfl rfl rfl (fun w' hw => run_cells (SlR.of_val (hw.own _ (getE_mem (i := 6) rfl)).1) hi') ?_
    refine S_new tabOk rfl (fun b10 hb10 => ?_)
    repeat (first | refine S_nil ?_ | refine S_pure tabOk rfl ?_ | refine T_region_any ?_ | refine S_load tabOk 0 rfl rfl rfl ?_ | refine S_load tabOk 2 rfl rfl rfl ?_ | refine S_store tabOk 0 rfl rfl rfl rfl rfl rfl ?_)
    refine S_callR (setP (fun y => (0 ≤ y ∧ y ≤ cum) ∨ Mem (rl.take (i + 1)) y) (1 + (i + 1))) (fun _ => False) rfl Try.call11 (fun w1 g1 => (span_p rl[i].1 rl[i].2 w1 (fun k hk => BB_new g1 hk) (Vp.fact (p := setP (fun y => (0 ≤ y ∧ y ≤ cum) ∨ Mem (rl.take i) y) (1 + i)) g1 1 rfl fun k hk => .inr (hF1 k hk)) (by omega) hokk.1 hokk.2).mono fun e w' ⟨r, e1, e2, e3⟩ => ⟨r, e1, e2, setP_to (fun x => by rw [mem_take_succ hi', or_assoc]) (by omega) e3⟩) (fun v F7 w1 hF7 hv => ?_)
    obtain ⟨a7, n7, c7, rfl⟩ := setP_val hv
    repeat (first | refine T_region ?_ | refine S_nil ?_ | refine pthen_normal ?_ | refine inb_normal ?_ | refine S_i64 tabOk rfl (by omega) ?_ | refine S_pure tabOk rfl ?_ | refine S_store tabOk 3 rfl rfl rfl rfl rfl rfl ?_)
    refine ⟨(i + 1, a7, n7, c7, F7), ⟨by dsimp only; omega, fun k hk => (hF7 k hk).resolve_left id⟩, (by repeat (first | exact Sub.nil | refine Sub.cons rfl ?_)), fun w' hw => ?_, by dsimp only; omega⟩
    exact hw.less (by repeat (first | exact Less.nil | refine Less.keep ?_ | refine Less.dropR ?_ | refine Less.dropB (by first | assumption | omega) ?_))
  have hie : i = rn := by omega
  subst hie
  rw [List.take_of_length_le (by omega)]
  repeat (first | refine T_seq ?_ | refine pthen_normal ?_ | refine inb_hit ?_ | refine pthen_exit ?_ | refine T_exit ?_)
  refine T_drawT (by kernel_rfl) 5 rfl (by kernel_rfl) ?_
  repeat (first | refine D_all rfl ?_ | refine D_pure tabOk rfl ?_ | refine D_load tabOk 1 rfl rfl rfl ?_ | refine D_load tabOk 4 rfl rfl rfl ?_)
  refine S_callTR 5 rfl Try.call13 rfl (fun w1 g1 => (bo_take (g1.own _ (getE_mem (i := 5) rfl)).1 (g1.own _ (getE_mem (i := 5) rfl)).2.2 (s := fun n => decide (ackP cum rl n)) (Bd := 1 + i) (setP_to (fun y => by rw [decide_eq_true_iff]; rfl) (Nat.le_refl _) (g1.own _ (getE_mem (i := 0) rfl)).1) (fun k hk hF => g1.dis 0 5 rfl rfl rfl rfl hk hF) (by omega)).mono fun e w' ⟨A3, C3, he, Fb2, k1, k2, k3⟩ => ⟨_, _, Fb2, _, _, _, _, _, he, k3, k1, k2, _, rfl, ?_⟩)
  have hsz := g1.size
  refine S_heap (fun w' hw => (Hp.less (o' := [.rep (fun w => (setP (fun y => (0 ≤ y ∧ y ≤ cum) ∨ Mem rl y) (1 + i)).at_ w F1 (setV a1 n1 c1)) F1 false, .blk b8 (.cells ⟨[.slice a1 n1 c1]⟩ 44 (0, 0)) true, .blk b6 (.cells ⟨[.slice none 0 0]⟩ 44 (0, 0)) true, .blk b5 (.cells ⟨Fm.cs ⟨k, ag, ep, inc, base, cum, lim, ra, i, rc, xa, xn, xc⟩⟩ 73 (0, 0)) true, .blk sb (sdC bb s) true, .rep (fun w => (boA bb s.f s.m (rmB s.gs fun n => decide (ackP cum rl n)) s.last).at_ w Fb2 (.bool true)) Fb2 true]) hw (by repeat (first | exact Less.nil | refine Less.keep ?_ | refine Less.dropR ?_ | refine Less.dropW (Nat.le_refl _) ?_))).pm [4, 5, 3, 1, 2, 0] rfl rfl rfl) ?_
  repeat (first | refine T_draw (by kernel_rfl) (by kernel_rfl) ?_ | refine D_all rfl ?_ | refine D_pure tabOk rfl ?_ | refine D_load tabOk 0 rfl rfl rfl ?_ | refine D_load tabOk 2 rfl rfl rfl ?_ | refine T_seq ?_ | refine T_region ?_ | refine T_block ?_ | refine S_nil ?_ | refine S_pure tabOk rfl ?_ | refine S_load tabOk 2 rfl rfl rfl ?_)
  refine S_cut (ι := Bool) (fun b => b = true ↔ (k = 2 ∧ (s.inc < inc ∨ s.op = false))) (fun b => [(0, bptr sb), (5, .pointer (some ⟨b5, 0, none⟩)), (6, .pointer (some ⟨b6, 0, none⟩)), (8, .pointer (some ⟨b8, 0, none⟩)), (11, .bool (decide (s.inc < inc))), (62, .bool b)])
    (fun b => [.blk sb (sdC bb s) true, .rep (fun w => (boA bb s.f s.m (rmB s.gs fun n => decide (ackP cum rl n)) s.last).at_ w Fb2 (.bool true)) Fb2 true, .blk b5 (.cells ⟨Fm.cs ⟨k, ag, ep, inc, base, cum, lim, ra, i, rc, xa, xn, xc⟩⟩ 73 (0, 0)) true, .blk b8 (.cells ⟨[.slice a1 n1 c1]⟩ 44 (0, 0)) true, .blk b6 (.cells ⟨[.slice none 0 0]⟩ 44 (0, 0)) true, .rep (fun w => (setP (fun y => (0 ≤ y ∧ y ≤ cum) ∨ Mem rl y) (1 + i)).at_ w F1 (setV a1 n1 c1)) F1 false]) ?_ ?_
  · refine S_split rfl rfl (fun h1 => ?_) (fun h1 => ?_)
    · repeat (first | refine S_pure tabOk rfl ?_)
      refine S_split rfl rfl (fun h2 => ?_) (fun h2 => ?_)
      · repeat (first | refine S_nil ?_ | refine S_pure tabOk rfl ?_ | refine S_pass rfl rfl rfl ?_)
        exact ⟨true, ⟨fun _ => ⟨h1, .inl h2⟩, fun _ => rfl⟩, (by repeat (first | exact Sub.nil | refine Sub.cons rfl ?_)), fun w hw => hw⟩
      · repeat (first | refine S_nil ?_ | refine S_pure tabOk rfl ?_ | refine S_load tabOk 0 rfl rfl rfl ?_)
        exact ⟨!s.op, ⟨fun h => ⟨h1, .inr (by simpa using h)⟩, fun h => by rw [h.2.resolve_left h2]; rfl⟩, (by repeat (first | exact Sub.nil | refine Sub.cons rfl ?_)), fun w hw => hw⟩
    · repeat (first | refine S_nil ?_ | refine S_pure tabOk rfl ?_ | refine S_pass rfl rfl rfl ?_)
      exact ⟨false, ⟨(fun h => by cases h), fun h => (h1 h.1).elim⟩, (by repeat (first | exact Sub.nil | refine Sub.cons rfl ?_)), fun w hw => hw⟩
  intro b hb
  have hFb2 : ∀ k, Fb2 k → F k ∨ w.heap.size ≤ k := fun k hk => (k2 k hk).elim (fun h => .inl (hFb k h)) fun h => .inr (by omega)
  have fin : ∀ (s' : SdS) (Fb' : Nat → Prop) (w' : World), Hp w w' [.blk sb (sdC bb s') true, .rep (fun w => (boA bb s'.f s'.m s'.gs s'.last).at_ w Fb' (.bool true)) Fb' true, .blk b5 (.cells ⟨Fm.cs ⟨k, ag, ep, inc, base, cum, lim, ra, i, rc, xa, xn, xc⟩⟩ 73 (0, 0)) true, .blk b8 (.cells ⟨[.slice a1 n1 c1]⟩ 44 (0, 0)) true, .blk b6 (.cells ⟨[.slice a1 n1 c1]⟩ 44 (0, 0)) true, .rep (fun w => (setP (fun y => (0 ≤ y ∧ y ≤ cum) ∨ Mem rl y) (1 + i)).at_ w F1 (setV a1 n1 c1)) F1 false] →
      SdOk s' → (∀ k, Fb' k → Fb2 k ∨ w.heap.size ≤ k) → s.rcv ⟨k, ag, ep, inc, base, cum, lim, ra, i, rc, xa, xn, xc⟩ rl = s' →
      ∃ (v : Value) (Fv F' : Nat → Prop), Ending.returned (.tuple #[setV a1 n1 c1, .bool true]) = .returned (.tuple #[v, .bool (decide (knP s ⟨k, ag, ep, inc, base, cum, lim, ra, i, rc, xa, xn, xc⟩))]) ∧ (∀ k, Fv k → w.heap.size ≤ k) ∧ (∀ k, F k → F' k) ∧ (∀ k, F' k → F k ∨ w.heap.size ≤ k) ∧
        Hp w w' [.rep (fun w => (setP (fun y => knP s ⟨k, ag, ep, inc, base, cum, lim, ra, i, rc, xa, xn, xc⟩ ∧ ackP cum rl y) (i + 1)).at_ w Fv v) Fv false, .rep (fun w => (seA sb (s.rcv ⟨k, ag, ep, inc, base, cum, lim, ra, i, rc, xa, xn, xc⟩ rl)).at_ w F' (.bool true)) F' true] := fun s' Fb' w' hw hok' hFb' e => by
    rw [e]
    have h9 : Hp w w' (seL sb bb s' Fb' true ++ [.rep (fun w => (setP (fun y => (0 ≤ y ∧ y ≤ cum) ∨ Mem rl y) (1 + i)).at_ w F1 (setV a1 n1 c1)) F1 false]) := hw.less (by repeat (first | exact Less.nil | refine Less.keep ?_ | refine Less.dropB (by first | assumption | omega) ?_))
    obtain ⟨F', j1, j2, j3⟩ := se_close (F0 := F) h9 hok' hF (fun e he k hk => by
      rw [List.mem_singleton] at he
      subst he
      exact hF1 k hk) (.inl hFsb) (fun k hk => (hFb' k hk).elim (hFb2 k) .inr)
    refine ⟨_, F1, F', by rw [decide_eq_true hk], hF1, j1, j2, ?_⟩
    have e2 : (fun y => knP s ⟨k, ag, ep, inc, base, cum, lim, ra, i, rc, xa, xn, xc⟩ ∧ ackP cum rl y) = (fun y => (0 ≤ y ∧ y ≤ cum) ∨ Mem rl y) := by
      funext y
      exact propext ⟨fun h => h.2, fun h => ⟨hk, h⟩⟩
    rw [e2, Nat.add_comm i 1]
    exact j3.pm [1, 0] rfl rfl rfl
  have hrcv : s.rcv ⟨k, ag, ep, inc, base, cum, lim, ra, i, rc, xa, xn, xc⟩ rl = if k = 2 ∧ (s.inc < inc ∨ s.op = false) then (s.ack_ cum rl).begin_ true inc lim else if s.inc < inc then (s.ack_ cum rl).begin_ false inc 0 else { s.ack_ cum rl with lim := max s.lim lim } := if_pos hk
  skip
  refine T_cond rfl (fun hb1 => ?_) (fun hb1 => ?_)
  · repeat (first | refine S_pure tabOk rfl ?_ | refine T_region_any ?_ | refine S_load tabOk 2 rfl rfl rfl ?_)
    refine S_call rfl Try.call58 (fun w2 g2 => (begin_ok (s := s.ack_ cum rl) g2 true inc lim).mono fun e w' ⟨he, Fb3, j1, j2, h9⟩ => ⟨_, _, he, h9, ?_⟩)
    repeat (first | refine T_seq ?_ | refine T_region ?_ | refine S_nil ?_ | refine pthen_normal ?_ | refine inb_normal ?_ | refine T_ret ?_ | refine S_pure tabOk rfl ?_ | refine S_load tabOk 3 rfl rfl rfl ?_ | refine S_store tabOk 4 rfl rfl rfl rfl rfl rfl ?_)
    exact ret2 rfl (res_cell tabOk 4 rfl rfl rfl rfl) rfl (fun w' hw => fin ((s.ack_ cum rl).begin_ true inc lim) Fb3 w' hw ⟨hok.conf, hok.ep, hinc, hlim, (show (0 : Int) ≤ 0 ∧ (0 : Int) ≤ 2305843009213693952 by decide), (show (0 : Int) ≤ 0 ∧ (0 : Int) ≤ 1099511627776 by decide)⟩ j2 (hrcv.trans (if_pos (hb.1 hb1))))
  have hb2 : ¬ (k = 2 ∧ (s.inc < inc ∨ s.op = false)) := fun h => by
    have := hb.2 h
    rw [hb1] at this
    cases this
  repeat (first | refine T_seq ?_ | refine T_region ?_ | refine S_nil ?_ | refine S_pure tabOk rfl ?_)
  refine T_cond_dec rfl (fun h3 => ?_) (fun h3 => ?_)
  · repeat (first | refine S_pure tabOk rfl ?_ | refine T_region_any ?_ | refine S_load tabOk 2 rfl rfl rfl ?_)
    refine S_call rfl Try.call58 (fun w2 g2 => (begin_ok (s := s.ack_ cum rl) g2 false inc 0).mono fun e w' ⟨he, Fb3, j1, j2, h9⟩ => ⟨_, _, he, h9, ?_⟩)
    repeat (first | refine T_seq ?_ | refine T_region ?_ | refine S_nil ?_ | refine pthen_normal ?_ | refine inb_normal ?_ | refine T_ret ?_ | refine S_pure tabOk rfl ?_ | refine S_load tabOk 3 rfl rfl rfl ?_ | refine S_store tabOk 4 rfl rfl rfl rfl rfl rfl ?_)
    exact ret2 rfl (res_cell tabOk 4 rfl rfl rfl rfl) rfl (fun w' hw => fin ((s.ack_ cum rl).begin_ false inc 0) Fb3 w' hw ⟨hok.conf, hok.ep, hinc, (show Fits .u64 0 by decide), (show (0 : Int) ≤ 0 ∧ (0 : Int) ≤ 2305843009213693952 by decide), (show (0 : Int) ≤ 0 ∧ (0 : Int) ≤ 1099511627776 by decide)⟩ j2 (hrcv.trans ((if_neg hb2).trans (if_pos h3))))
  · skip
    refine T_asThen ?_
    refine T_drawT (by kernel_rfl) 10 rfl (by kernel_rfl) ?_
    repeat (first | refine D_all rfl ?_ | refine D_pure tabOk rfl ?_ | refine D_load tabOk 0 rfl rfl rfl ?_ | refine D_load tabOk 2 rfl rfl rfl ?_ | refine T_seq ?_ | refine T_region ?_ | refine S_nil ?_ | refine pthen_normal ?_ | refine inb_normal ?_ | refine T_ret ?_ | refine S_pure tabOk rfl ?_ | refine S_load tabOk 3 rfl rfl rfl ?_ | refine S_store tabOk 0 rfl rfl rfl rfl rfl rfl ?_ | refine S_store tabOk 4 rfl rfl rfl rfl rfl rfl ?_)
    have hmx : Fits .u64 (max s.lim lim) := by
      rcases Int.le_total s.lim lim with h | h
      · rw [Int.max_eq_right h]; exact hlim
      · rw [Int.max_eq_left h]; exact hok.lim
    exact ret2 rfl (res_cell tabOk 4 rfl rfl rfl rfl) rfl (fun w' hw => fin { s.ack_ cum rl with lim := max s.lim lim } Fb2 w' hw ⟨hok.conf, hok.ep, hok.inc, hmx, hok.tm, hok.tr⟩ (fun k h => .inl h) (hrcv.trans ((if_neg hb2).trans (if_neg h3))))
/-- of a nil sender -/
theorem se_receive0 (w : World) (now : Int) (x : Fm) : Calls Try.prog 24 #[.pointer none, .int .i64 now, .agg ⟨x.cs⟩] w fun e w' => e = .returned (.tuple #[setV none 0 0, .bool false]) ∧ Below w.heap.size w w' := by
  refine enter3 Try.func24 rfl rfl (Hp.refl w) ?_
  repeat (first | refine T_seq ?_ | refine T_region ?_)
  refine S_new tabOk rfl (fun b5 hb5 => ?_)
  refine S_new tabOk rfl (fun b6 hb6 => ?_)
  repeat (first | refine T_seq ?_ | refine T_region ?_ | refine S_nil ?_ | refine S_pure tabOk rfl ?_)
  refine S_q (Q_eqptr tabOk rfl rfl rfl rfl rfl) ?_
  repeat (first | refine S_nil ?_ | refine S_pure tabOk rfl ?_ | refine S_pass rfl rfl rfl ?_)
  refine T_cond_t rfl ?_
  repeat (first | refine T_seq ?_ | refine T_region ?_ | refine S_nil ?_ | refine pthen_ret ?_ | refine T_ret ?_ | refine S_pure tabOk rfl ?_ | refine S_store tabOk 0 rfl rfl rfl rfl rfl rfl ?_ | refine S_q (Q_build tabOk rfl rfl rfl rfl rfl rfl rfl) ?_)
  exact ret2 rfl (res_cell tabOk 0 rfl rfl rfl rfl) rfl (fun w' hw => ⟨rfl, hw.below (by repeat (first | exact new_nil | refine new_cons (by first | assumption | omega) ?_))⟩)
end
end Go.Proofs.Ytidhpofcofknhaa
