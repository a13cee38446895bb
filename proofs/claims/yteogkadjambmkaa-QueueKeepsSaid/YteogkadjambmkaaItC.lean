/-
  maps.Keys at one map type, against any loop. Conditions: each theorem's own. (Made by genItC.py.)
-/
import Derived.Test.YteogkadjambmkaaItB
namespace Go.Proofs.Yteogkadjambmkaa
open Go Go.RowKit Go.Shelf
set_option linter.unusedVariables false
attribute [local go_sem] Oper.semAt_some

set_option maxRecDepth 100000 in
set_option maxHeartbeats 4000000 in
theorem qkeys1 (n l Bm b c : Nat) (M : List ME) (hM : MOk M c) (J Jx : List Int → World → Prop)
    (hY : ∀ pre x W, J pre W → pre.length < M.length → YieldAt Fence.wide (n - 1) Try.prog l (encU x) W fun e W' => (e = .returned (.bool true) ∧ J (pre ++ [x]) W' ∧ KeepsWalks W W') ∨ (e = .returned (.bool false) ∧ Jx (pre ++ [x]) W'))
    (W : World) (hJ : AbidesFrom W.heap.size J) (hm : W.cell? ⟨Bm, 0, none⟩ = some (.map (some b))) (hb : W.heap[b]? = some (mapO .u64 M c)) (h0 : J [] W) :
    CallsIn Fence.wide n Try.prog 70 #[.func (.yield l) #[] #[], .pointer (some ⟨Bm, 0, none⟩)] W fun e W' => (∃ v, e = .returned v) ∧ ((∃ ss, ss.Perm (M.map (·.1)) ∧ J ss W') ∨ (∃ pre, True ∧ Jx pre W')) := by
  refine callsIn_of_wp Try.func70 rfl trivial ?_ rfl
  simp only [Try.ntmps70, List.size_toArray, List.length_cons, List.length_nil, Nat.reduceAdd, Nat.reduceSub, Array.replicate_succ, Array.replicate_zero, List.push_toArray, List.append_toArray, List.nil_append, List.cons_append]
  gi_wp2_with (first
    | (gi_at_range; refine wpListIn_range_m rfl _ 102 rfl _ _ Try.underlying102 b M c rfl hb ?_; intro w0 hI0 hg0)
    | gi_in)
  go_frame
  gi_loopw [3] (fun _ wr => ∃ pk, ItAt b W.heap.size M c pk wr ∧ J (pk.map (·.1)) wr) (fun _ wr => wr.rangeLeft b W.heap.size)
  case atStart =>
    exact ⟨[], hI0, hJ [] W w0 none h0 hg0 (fun r e => by cases e)⟩
  case round =>
    obtain ⟨pk, hI, hJs⟩ := hrel
    gi_wp2_with (first
      | (gi_at_next; refine wpListIn_next_m rfl _ rfl b W.heap.size M c pk hM rfl hI ?_ ?_)
      | gi_in)
    · intro hp
      gi_wp2
      go_end0
      exact ⟨⟨_, rfl⟩, .inl ⟨_, hp, hJs⟩⟩
    · intro x v bn w2 hp hI2 hlt hg2 hlen hen
      have hJ2 := hJ _ _ w2 (some W.heap.size) hJs hg2 (fun r e => by cases e; exact ⟨Nat.le_refl _, hI.iter_walk⟩)
      obtain ⟨fn, tmps, assign, body, hy, hR⟩ := hY _ x w2 hJ2 (by rw [List.length_map]; exact hlen)
      have hsnoc : (pk ++ [(x, v, bn)]).map (·.1) = pk.map (·.1) ++ [x] := by simp
      gi_wp2
      refine ⟨fun h => (by cases h), hR.mono ?_⟩
      rintro e W3 (⟨rfl, hJ3, hk3⟩ | ⟨rfl, hJx3⟩)
      · gi_wp2
        have hI3 := hI2.walks hk3
        go_roundw
        case rel => exact ⟨pk ++ [(x, v, bn)], hI3, by rw [hsnoc]; exact hJ3⟩
        case measure =>
          have e3 : W3.rangeLeft b W.heap.size = w2.rangeLeft b W.heap.size := by unfold World.rangeLeft; rw [hI3.m, hI3.it, hI2.m, hI2.it]
          rw [e3]; exact hlt
      · gi_wp2
        refine bodyPost_ret (results_none rfl _ _ _) rfl ?_
        exact ⟨⟨_, rfl⟩, .inr ⟨_, trivial, hJx3⟩⟩
theorem qkeys_stops (Bm b c : Nat) (M : List ME) (hM : MOk M c) (w : World) (hBm : Bm < w.heap.size) (hm : w.cell? ⟨Bm, 0, none⟩ = some (.map (some b))) (hb : w.heap[b]? = some (mapO .u64 M c)) (n : Nat) :
    SeqStopsK Fence.wide n Try.prog 70 #[.pointer (some ⟨Bm, 0, none⟩)] encU KeepsWalks (fun ss => ss.Perm (M.map (·.1))) (fun _ => True) M.length w := fun l J Jx W hW hJ _ hY h0 =>
  qkeys1 n l Bm b c M hM J Jx hY W hJ ((hW.cell (p := ⟨Bm, 0, none⟩) hBm).trans hm) ((hW.block b (Array.getElem?_eq_some_iff.1 hb).1).trans hb) h0
theorem qkeys_ok {mb : Option Nat} {w0 w : World} {ol : OL} (h : Hp w0 w ol) : Calls Try.prog 55 #[.map mb] w fun e w' => ∃ B, w0.heap.size ≤ B ∧ e = .returned (.func (.func 70) #[] #[.pointer (some ⟨B, 0, none⟩)]) ∧ Hp w0 w' (.blk B (.cells ⟨[.map mb]⟩ 102 (0, 0)) true :: ol) := by
  refine enterW1 Try.func55 rfl rfl h ?_
  repeat (first | refine T_draw (by kernel_rfl) (by kernel_rfl) ?_ | refine D_all rfl ?_ | refine D_i64 tabOk rfl (by omega) ?_ | refine D_pure tabOk rfl ?_ | refine D_pass rfl rfl rfl ?_ | refine D_load tabOk 0 rfl rfl rfl ?_ | refine D_load tabOk 1 rfl rfl rfl ?_ | refine D_load tabOk 2 rfl rfl rfl ?_ | refine T_seq ?_ | refine T_region ?_ | refine T_block ?_ | refine S_nil ?_ | refine pthen_normal ?_ | refine inb_normal ?_ | refine inb_ret ?_ | refine pthen_ret ?_ | refine inb_hit ?_ | refine pthen_exit ?_ | refine T_skip ?_ | refine T_ret ?_ | refine T_exit ?_ | refine T_cond_t rfl ?_ | refine T_cond_f rfl ?_ | refine S_i64 tabOk rfl (by omega) ?_ | refine S_pure tabOk rfl ?_ | refine S_pass rfl rfl rfl ?_ | refine S_pass0 rfl rfl ?_ | refine T_region_any ?_ | refine S_load tabOk 0 rfl rfl rfl ?_ | refine S_load tabOk 1 rfl rfl rfl ?_ | refine S_load tabOk 2 rfl rfl rfl ?_ | refine S_load tabOk 3 rfl rfl rfl ?_ | refine S_store tabOk 0 rfl rfl rfl rfl rfl rfl ?_ | refine S_store tabOk 1 rfl rfl rfl rfl rfl rfl ?_ | refine S_store tabOk 2 rfl rfl rfl rfl rfl rfl ?_ | refine S_store tabOk 3 rfl rfl rfl rfl rfl rfl ?_ | refine S_q (Q_build tabOk rfl rfl rfl rfl rfl rfl rfl) ?_)
  refine S_new tabOk rfl (fun B hB => ?_)
  repeat (first | refine T_draw (by kernel_rfl) (by kernel_rfl) ?_ | refine D_all rfl ?_ | refine D_i64 tabOk rfl (by omega) ?_ | refine D_pure tabOk rfl ?_ | refine D_pass rfl rfl rfl ?_ | refine D_load tabOk 0 rfl rfl rfl ?_ | refine D_load tabOk 1 rfl rfl rfl ?_ | refine D_load tabOk 2 rfl rfl rfl ?_ | refine T_seq ?_ | refine T_region ?_ | refine T_block ?_ | refine S_nil ?_ | refine pthen_normal ?_ | refine inb_normal ?_ | refine inb_ret ?_ | refine pthen_ret ?_ | refine inb_hit ?_ | refine pthen_exit ?_ | refine T_skip ?_ | refine T_ret ?_ | refine T_exit ?_ | refine T_cond_t rfl ?_ | refine T_cond_f rfl ?_ | refine S_i64 tabOk rfl (by omega) ?_ | refine S_pure tabOk rfl ?_ | refine S_pass rfl rfl rfl ?_ | refine S_pass0 rfl rfl ?_ | refine T_region_any ?_ | refine S_load tabOk 0 rfl rfl rfl ?_ | refine S_load tabOk 1 rfl rfl rfl ?_ | refine S_load tabOk 2 rfl rfl rfl ?_ | refine S_load tabOk 3 rfl rfl rfl ?_ | refine S_store tabOk 0 rfl rfl rfl rfl rfl rfl ?_ | refine S_store tabOk 1 rfl rfl rfl rfl rfl rfl ?_ | refine S_store tabOk 2 rfl rfl rfl rfl rfl rfl ?_ | refine S_store tabOk 3 rfl rfl rfl rfl rfl rfl ?_ | refine S_q (Q_build tabOk rfl rfl rfl rfl rfl rfl rfl) ?_)
  refine S_q (Q_mkfn rfl rfl) ?_
  repeat (first | refine T_draw (by kernel_rfl) (by kernel_rfl) ?_ | refine D_all rfl ?_ | refine D_i64 tabOk rfl (by omega) ?_ | refine D_pure tabOk rfl ?_ | refine D_pass rfl rfl rfl ?_ | refine D_load tabOk 0 rfl rfl rfl ?_ | refine D_load tabOk 1 rfl rfl rfl ?_ | refine D_load tabOk 2 rfl rfl rfl ?_ | refine T_seq ?_ | refine T_region ?_ | refine T_block ?_ | refine S_nil ?_ | refine pthen_normal ?_ | refine inb_normal ?_ | refine inb_ret ?_ | refine pthen_ret ?_ | refine inb_hit ?_ | refine pthen_exit ?_ | refine T_skip ?_ | refine T_ret ?_ | refine T_exit ?_ | refine T_cond_t rfl ?_ | refine T_cond_f rfl ?_ | refine S_i64 tabOk rfl (by omega) ?_ | refine S_pure tabOk rfl ?_ | refine S_pass rfl rfl rfl ?_ | refine S_pass0 rfl rfl ?_ | refine T_region_any ?_ | refine S_load tabOk 0 rfl rfl rfl ?_ | refine S_load tabOk 1 rfl rfl rfl ?_ | refine S_load tabOk 2 rfl rfl rfl ?_ | refine S_load tabOk 3 rfl rfl rfl ?_ | refine S_store tabOk 0 rfl rfl rfl rfl rfl rfl ?_ | refine S_store tabOk 1 rfl rfl rfl rfl rfl rfl ?_ | refine S_store tabOk 2 rfl rfl rfl rfl rfl rfl ?_ | refine S_store tabOk 3 rfl rfl rfl rfl rfl rfl ?_ | refine S_q (Q_build tabOk rfl rfl rfl rfl rfl rfl rfl) ?_)
  exact ret1 rfl rfl (fun w' hw => ⟨B, hB, rfl, hw⟩)
end Go.Proofs.Yteogkadjambmkaa
