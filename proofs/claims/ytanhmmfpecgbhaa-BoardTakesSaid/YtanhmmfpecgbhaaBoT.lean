/-
  The law BoardTakes: its walk. Conditions: each theorem's own.
-/
import Derived.Test.YtanhmmfpecgbhaaBoN
import Derived.Test.YtanhmmfpecgbhaaEngAd
namespace Go.Proofs.Ytanhmmfpecgbhaa
open Go Go.RowKit
set_option linter.unusedVariables false

instance (l : List Run) (x : Int) : Decidable (Mem l x) := by unfold Mem; infer_instance
/-- the boards' states, send by send -/
def stT (L M : List Int) : Nat → List BG × Int
  | 0 => ([], 0)
  | 1 => ((bSend 3 9 [] 0 1 L).1, (bSend 3 9 [] 0 1 L).2.1)
  | _ => ((bSend 3 9 (bSend 3 9 [] 0 1 L).1 (bSend 3 9 [] 0 1 L).2.1 1 M).1, (bSend 3 9 (bSend 3 9 [] 0 1 L).1 (bSend 3 9 [] 0 1 L).2.1 1 M).2.1)
theorem stT_len (L M : List Int) : (bNums (stT L M 1).1).length ≤ L.length ∧ (stT L M 1).1.length ≤ 1 ∧ (0 ≤ (stT L M 1).2 ∧ (stT L M 1).2 ≤ 1) ∧ (bNums (stT L M 2).1).length ≤ L.length + M.length ∧ (stT L M 2).1.length ≤ 2 := by
  have h1 := bSend_len (f := 3) (m := 9) (gs := []) (last := 0) (now := 1) (l := L)
  rw [show (bNums []).length = 0 from rfl, Nat.zero_add, List.length_nil, Nat.zero_add] at h1
  have h2 := bSend_len (f := 3) (m := 9) (gs := (bSend 3 9 [] 0 1 L).1) (last := (bSend 3 9 [] 0 1 L).2.1) (now := 1) (l := M)
  exact ⟨h1.1, h1.2.1, ⟨h1.2.2.1, h1.2.2.2⟩, Nat.le_trans h2.1 (Nat.add_le_add_right h1.1 _), Nat.le_trans h2.2.1 (Nat.succ_le_succ h1.2.1)⟩
theorem rmB_memT {gs : List BG} {s : Int → Bool} {g : BG} (h : g ∈ rmB gs s) : ∃ x ∈ gs, g = cutB s x := by
  obtain ⟨x, hx, e⟩ := List.mem_map.1 (List.mem_filter.1 h).1
  exact ⟨x, hx, e.symm⟩
theorem stT_tries (L M : List Int) : ∀ g ∈ (stT L M 2).1, g.tries = 1 := fun g hg =>
  (bSend_mem hg).elim (fun h => (bSend_mem h).elim (fun h => by cases h) fun h => h.2) fun h => h.2
/-- in two steps: those below the cut, then those from it -/
theorem cut_two {D : Int → Prop} [DecidablePred D] {cut : Int} {last : Int} {gs : List BG} (hok : BOk last gs) : rmB (rmB gs fun n => decide (D n ∧ ¬ (cut ≤ n ∧ n ≤ lastN))) (fun n => decide (D n ∧ cut ≤ n)) = rmB gs (fun n => decide (D n)) ∧
    sortU ((bNums gs).filter fun n => decide (D n)) = sortU ((bNums gs).filter fun n => decide (D n ∧ ¬ (cut ≤ n ∧ n ≤ lastN))) ++ sortU ((bNums (rmB gs fun n => decide (D n ∧ ¬ (cut ≤ n ∧ n ≤ lastN)))).filter fun n => decide (D n ∧ cut ≤ n)) := by
  have hfit : ∀ n ∈ bNums gs, n ≤ lastN := fun n hn => by
    obtain ⟨g, hg, h⟩ := List.mem_flatMap.1 hn
    have := fits_u64 (hok.fit g hg n h)
    unfold lastN
    omega
  constructor
  · rw [rmB_rmB]
    refine rmB_congr fun n hn => ?_
    by_cases h : D n <;> by_cases h2 : cut ≤ n <;> simp [h, h2]
  · refine lt_ext (sortU_srt _) ?_ fun x => ?_
    · rw [List.pairwise_append]
      refine ⟨sortU_srt _, sortU_srt _, fun a ha b hb => ?_⟩
      rw [sortU_mem, List.mem_filter, decide_eq_true_iff] at ha hb
      have := hfit a ha.1
      have := ha.2.2
      have := hb.2.2
      omega
    · rw [sortU_mem, List.mem_append, sortU_mem, sortU_mem, nums_rm, List.mem_filter, List.mem_filter, List.mem_filter, List.mem_filter]
      simp only [decide_eq_true_iff, Bool.not_eq_true', decide_eq_false_iff_not]
      constructor
      · rintro ⟨h1, h2⟩
        have := hfit x h1
        by_cases h3 : cut ≤ x
        · exact .inr ⟨⟨h1, fun h => h.2 ⟨h3, this⟩⟩, h2, h3⟩
        · exact .inl ⟨h1, h2, fun h => h3 h.1⟩
      · rintro (⟨h1, h2, _⟩ | ⟨⟨h1, _⟩, h2, _⟩) <;> exact ⟨h1, h2⟩
set_option maxHeartbeats 8000000 in
theorem boardTakes_walk (v0 : Value) (l0 : List Int) (v1 : Value) (m0 : List Int) (v2 : Value) (rs : List (Int × Int)) (cut : Int) (W : World) (hv0 : (Rslice (Rint .u64)).val W TT v0 l0) (hv1 : (Rslice (Rint .u64)).val W TT v1 m0) (hv2 : (Rslice Rrun).val W TT v2 rs) (hcut : Fits .u64 cut) :
    Calls Try.prog 3 #[v0, v1, v2, .int .u64 cut] W fun e W' => e = .returned (.bool true) ∧ Below W.heap.size W W' := by
  obtain ⟨a0, n0, c0, rfl, h0⟩ := SlR.form hv0
  obtain ⟨a1, n1, c1, rfl, h1⟩ := SlR.form hv1
  obtain ⟨a2, n2, c2, rfl, h2⟩ := SlR.form hv2
  have h0' := h0.take (k := min n0 20) (by omega)
  have h1' := h1.take (k := min n1 20) (by omega)
  have hc0 := h0.cap
  have hc1 := h1.cap
  have hm2 := h2.maxn
  simp only [maxLen] at hm2
  obtain ⟨ln, hln⟩ : ∃ ln, ln = min n0 20 := ⟨_, rfl⟩
  obtain ⟨mn, hmn⟩ : ∃ mn, mn = min n1 20 := ⟨_, rfl⟩
  obtain ⟨L, hL⟩ : ∃ L, L = l0.take (min n0 20) := ⟨_, rfl⟩
  obtain ⟨M, hM⟩ : ∃ M, M = m0.take (min n1 20) := ⟨_, rfl⟩
  rw [← hL, ← hln] at h0'
  rw [← hM, ← hmn] at h1'
  have hLl := h0'.len
  have hMl := h1'.len
  have hrl := h2.len
  have hrok := slr_okL h2
  obtain ⟨s1, s2, s3, s4, s5⟩ := stT_len L M
  refine enter4 Try.func3 rfl rfl (Hp.refl W) ?_
  repeat (first | refine T_seq ?_ | refine T_region ?_ | refine S_nil ?_ | refine S_pure tabOk rfl ?_)
  refine S_callq (v := .bool true) rfl Try.call11 (fun w1 h1 => awake13_ok w1) ?_
  repeat (first | refine S_nil ?_ | refine S_pure tabOk rfl ?_)
  refine T_cond_f rfl ?_
  repeat (first | refine T_draw (by kernel_rfl) (by kernel_rfl) ?_ | refine D_pure tabOk rfl ?_ | refine T_seq ?_ | refine pthen_normal ?_ | refine T_skip ?_)
  refine D_q (Q_sliceTo tabOk rfl rfl rfl rfl rfl rfl (H := ln) (by omega) (by omega)) ?_
  repeat (first | refine D_pure tabOk rfl ?_)
  refine D_q (Q_sliceTo tabOk rfl rfl rfl rfl rfl rfl (H := mn) (by omega) (by omega)) ?_
  repeat (first | refine D_all rfl ?_ | refine D_pure tabOk rfl ?_ | refine T_seq ?_ | refine T_region ?_ | refine S_q (Q_build tabOk rfl rfl rfl rfl rfl rfl rfl) ?_)
  refine S_new tabOk rfl (fun b9 hb9 => ?_)
  repeat (first | refine T_seq ?_ | refine T_region ?_ | refine S_nil ?_ | refine S_load tabOk 0 rfl rfl rfl ?_ | refine S_store tabOk 0 rfl rfl rfl rfl rfl rfl ?_)
  refine S_bnew (by decide) rfl (fun ba F0 hN0 => ?_)
  repeat (first | refine T_seq ?_ | refine T_region ?_ | refine S_nil ?_ | refine S_pure tabOk rfl ?_ | refine S_load tabOk 1 rfl rfl rfl ?_)
  refine S_bnew (by decide) rfl (fun bb G0 hM0 => ?_)
  repeat (first | refine T_seq ?_ | refine T_region ?_ | refine S_nil ?_ | refine S_pure tabOk rfl ?_)
  refine S_bslice tabOk rfl rfl rfl rfl rfl rfl rfl rfl rfl rfl rfl rfl (fun nl hnl => ?_)
  repeat (first | refine T_block ?_ | refine S_nil ?_ | refine S_pure tabOk rfl ?_)
  refine T_loop (ι := Nat × (Nat → Prop) × (Nat → Prop)) (fun j => [(2, .slice a2 n2 c2), (3, .int .u64 cut), (10, bptr ba), (12, bptr bb), (51, .slice (some ⟨nl, 0, none⟩) 2 2), (52, .int .i64 2), (53, .int .i64 (j.1 : Int))])
    (fun j => [.rep (fun w => (boA ba 3 9 (stT L M j.1).1 (stT L M j.1).2).at_ w j.2.1 (.bool true)) j.2.1 true, .rep (fun w => (boA bb 3 9 (stT L M j.1).1 (stT L M j.1).2).at_ w j.2.2 (.bool true)) j.2.2 true, .blk nl (.cells ⟨[.slice a0 ln c0, .slice a1 mn c1]⟩ 22 (0, 0)) true])
    (fun j => j.1 ≤ 2 ∧ (∀ k, j.2.1 k → W.heap.size ≤ k) ∧ ∀ k, j.2.2 k → W.heap.size ≤ k) (fun j => 2 - j.1) (0, F0, G0) ⟨Nat.zero_le _, hN0, hM0⟩ (by repeat (first | exact Sub.nil | refine Sub.cons rfl ?_)) (fun w' hw => (hw.pm [2, 1, 0, 3] rfl rfl rfl).less (by repeat (first | exact Less.nil | refine Less.keep ?_ | refine Less.dropB (by first | assumption | omega) ?_))) ?_
  rintro ⟨i, F1, G1⟩ ⟨hi, hN1, hM1⟩
  dsimp only at hi hN1 hM1 ⊢
  repeat (first | refine T_seq ?_ | refine T_region ?_ | refine S_nil ?_ | refine S_pure tabOk rfl ?_)
  refine T_cond_dec rfl (fun hlt1 => ?_) (fun hge => ?_)
  · have h01 : i = 0 ∨ i = 1 := by omega
    rcases h01 with rfl | rfl
    · repeat (first | refine T_seq ?_ | refine T_region ?_ | refine T_block ?_ | refine pthen_normal ?_ | refine T_skip ?_)
      refine S_q (Q_idx1 tabOk rfl rfl rfl rfl rfl rfl rfl (j := 0) rfl (by decide)) ?_
      repeat (first | refine T_seq ?_ | refine T_region ?_ | refine S_nil ?_ | refine S_pure tabOk rfl ?_ | refine S_load tabOk 2 rfl rfl rfl ?_)
      refine S_bsend 0 (L := L) rfl rfl hN1 (fun w1 g1 => Arg.old h0' g1 (by repeat (first | exact new_nil | refine new_rx (by assumption) ?_ | refine new_cons (by first | assumption | omega) ?_)) hN1) (by decide) (by rw [show (bNums (stT L M 0).1).length = 0 from rfl]; omega) (by show ([] : List BG).length < 60000; decide) (by show (0 : Int) + 1 ≤ 1099511627776; decide) (fun F2 hN2 => ⟨_, rfl, ?_⟩)
      repeat (first | refine S_nil ?_ | refine S_pure tabOk rfl ?_ | refine T_region_any ?_)
      refine S_bsend 1 (L := L) rfl rfl hM1 (fun w1 g1 => Arg.old h0' g1 (by repeat (first | exact new_nil | refine new_rx (by assumption) ?_ | refine new_cons (by first | assumption | omega) ?_)) hM1) (by decide) (by rw [show (bNums (stT L M 0).1).length = 0 from rfl]; omega) (by show ([] : List BG).length < 60000; decide) (by show (0 : Int) + 1 ≤ 1099511627776; decide) (fun G2 hM2 => ⟨_, rfl, ?_⟩)
      repeat (first | refine T_region ?_ | refine S_nil ?_ | refine pthen_normal ?_ | refine inb_normal ?_ | refine S_i64 tabOk rfl (by omega) ?_ | refine S_pure tabOk rfl ?_)
      exact ⟨(1, F2, G2), ⟨by show 1 ≤ 2; decide, hN2, hM2⟩, (by repeat (first | exact Sub.nil | refine Sub.cons rfl ?_)), fun w' hw => hw, by show 2 - 1 < 2 - 0; decide⟩
    · repeat (first | refine T_seq ?_ | refine T_region ?_ | refine T_block ?_ | refine pthen_normal ?_ | refine T_skip ?_)
      refine S_q (Q_idx1 tabOk rfl rfl rfl rfl rfl rfl rfl (j := 1) rfl (by decide)) ?_
      repeat (first | refine T_seq ?_ | refine T_region ?_ | refine S_nil ?_ | refine S_pure tabOk rfl ?_ | refine S_load tabOk 2 rfl rfl rfl ?_)
      refine S_bsend 0 (L := M) rfl rfl hN1 (fun w1 g1 => Arg.old h1' g1 (by repeat (first | exact new_nil | refine new_rx (by assumption) ?_ | refine new_cons (by first | assumption | omega) ?_)) hN1) (by decide) (by omega) (by omega) (by omega) (fun F2 hN2 => ⟨_, rfl, ?_⟩)
      repeat (first | refine S_nil ?_ | refine S_pure tabOk rfl ?_ | refine T_region_any ?_)
      refine S_bsend 1 (L := M) rfl rfl hM1 (fun w1 g1 => Arg.old h1' g1 (by repeat (first | exact new_nil | refine new_rx (by assumption) ?_ | refine new_cons (by first | assumption | omega) ?_)) hM1) (by decide) (by omega) (by omega) (by omega) (fun G2 hM2 => ⟨_, rfl, ?_⟩)
      repeat (first | refine T_region ?_ | refine S_nil ?_ | refine pthen_normal ?_ | refine inb_normal ?_ | refine S_i64 tabOk rfl (by omega) ?_ | refine S_pure tabOk rfl ?_)
      exact ⟨(2, F2, G2), ⟨by show 2 ≤ 2; decide, hN2, hM2⟩, (by repeat (first | exact Sub.nil | refine Sub.cons rfl ?_)), fun w' hw => hw, by show 2 - 2 < 2 - 1; decide⟩
  have hi2 : i = 2 := by omega
  subst hi2
  obtain ⟨gs, hgs⟩ : ∃ g, g = (stT L M 2).1 := ⟨_, rfl⟩
  obtain ⟨la, hla⟩ : ∃ g, g = (stT L M 2).2 := ⟨_, rfl⟩
  rw [← hgs, ← hla]
  rw [← hgs] at s4 s5
  repeat (first | refine T_seq ?_ | refine T_region ?_ | refine pthen_normal ?_ | refine inb_hit ?_ | refine pthen_exit ?_ | refine T_exit ?_ | refine S_q (Q_build tabOk rfl rfl rfl rfl rfl rfl rfl) ?_)
  refine S_new tabOk rfl (fun b16 hb16 => ?_)
  repeat (first | refine T_seq ?_ | refine T_region ?_ | refine T_block ?_ | refine S_nil ?_ | refine S_pure tabOk rfl ?_ | refine S_store tabOk 0 rfl rfl rfl rfl rfl rfl ?_)
  refine T_addV (setP (fun _ => False) 0) (fun _ => False) (fun w' hw => setP_nil) (fun F9 hF9 => ?_)
  refine T_loop (ι := Nat × Option Addr × Nat × Nat × (Nat → Prop)) (fun i => [(3, .int .u64 cut), (10, bptr ba), (12, bptr bb), (16, .pointer (some ⟨b16, 0, none⟩)), (65, .slice a2 n2 c2), (66, .int .i64 (n2 : Int)), (67, .int .i64 (i.1 : Int))])
    (fun i => [.rep (fun w => (setP (Mem (rs.take (min i.1 9))) (min i.1 9)).at_ w i.2.2.2.2 (setV i.2.1 i.2.2.1 i.2.2.2.1)) i.2.2.2.2 false, .blk b16 (.cells ⟨[.slice i.2.1 i.2.2.1 i.2.2.2.1]⟩ 35 (0, 0)) true, .rep (fun w => (boA ba 3 9 gs la).at_ w F1 (.bool true)) F1 true, .rep (fun w => (boA bb 3 9 gs la).at_ w G1 (.bool true)) G1 true])
    (fun i => i.1 ≤ n2 ∧ ∀ k, i.2.2.2.2 k → W.heap.size ≤ k) (fun i => n2 - i.1) (0, none, 0, 0, F9) ⟨Nat.zero_le _, fun k hk => (hF9 k hk).resolve_left id⟩ (by repeat (first | exact Sub.nil | refine Sub.cons rfl ?_)) (fun w' hw => ?_) ?_
  · have e : (fun _ : Int => False) = Mem (rs.take (min 0 9)) := by
      funext x
      exact propext ⟨False.elim, fun h => mem_nil x h⟩
    simp only [← e]
    exact hw.less (by repeat (first | exact Less.nil | refine Less.keep ?_ | refine Less.dropB (by first | assumption | omega) ?_))
  rintro ⟨i, a6, n6, c6, F6⟩ ⟨hi, hF6⟩
  dsimp only at hi hF6 ⊢
  repeat (first | refine T_seq ?_ | refine T_region ?_ | refine S_nil ?_ | refine S_pure tabOk rfl ?_)
  refine T_cond_dec rfl (fun hlt => ?_) (fun hge => ?_)
  · have hi' : i < rs.length := by omega
    have hokk := hrok _ (List.getElem_mem hi')
    obtain ⟨ab, off, cs, rfl, hlt2, _⟩ := h2.get_ hi'
    repeat (first | refine T_seq ?_ | refine T_region ?_ | refine T_block ?_ | refine pthen_normal ?_ | refine T_skip ?_ | refine S_pure tabOk rfl ?_)
    refine S_q (Q_idx (sz := 2) tabOk rfl rfl rfl rfl rfl rfl rfl rfl (j := i) (by omega)) ?_
    refine S_loadN tabOk (vs := encR rs[i]) rfl rfl rfl (fun w' hw => run_cells (h2.ext (hw.below (by repeat (first | exact new_nil | refine new_ro ?_ | refine new_rx (by assumption) ?_ | refine new_cons (by first | assumption | omega) ?_)))) hi') ?_
    refine S_new tabOk rfl (fun b18 hb18 => ?_)
    repeat (first | refine T_seq ?_ | refine T_region ?_ | refine S_nil ?_ | refine S_pure tabOk rfl ?_ | refine S_store tabOk 0 rfl rfl rfl rfl rfl rfl ?_)
    refine T_cond_dec rfl (fun h9 => ?_) (fun h9 => ?_)
    · have em : min i 9 = i := by omega
      have em2 : min (i + 1) 9 = i + 1 := by omega
      repeat (first | refine S_pure tabOk rfl ?_ | refine T_region_any ?_ | refine S_load tabOk 0 rfl rfl rfl ?_ | refine S_load tabOk 2 rfl rfl rfl ?_)
      refine S_callR (setP (Mem (rs.take (i + 1))) (i + 1)) (fun _ => False) rfl Try.call14 (fun w1 g1 => (span_p rs[i].1 rs[i].2 w1 (fun k hk => BB_new g1 hk) (Vp.fact (p := setP (Mem (rs.take (min i 9))) (min i 9)) g1 1 rfl fun k hk => .inr (hF6 k hk)) (by omega) hokk.1 hokk.2).mono fun e w' ⟨r, e1, e2, e3⟩ => ⟨r, e1, e2, setP_to (fun x => by rw [mem_take_succ hi', em]) (by omega) e3⟩) (fun v F7 w1 hF7 hv => ?_)
      obtain ⟨a7, n7, c7, rfl⟩ := setP_val hv
      repeat (first | refine T_region ?_ | refine S_nil ?_ | refine pthen_normal ?_ | refine inb_normal ?_ | refine S_i64 tabOk rfl (by omega) ?_ | refine S_pure tabOk rfl ?_ | refine S_store tabOk 3 rfl rfl rfl rfl rfl rfl ?_)
      refine ⟨(i + 1, a7, n7, c7, F7), ⟨by dsimp only; omega, fun k hk => (hF7 k hk).resolve_left id⟩, (by repeat (first | exact Sub.nil | refine Sub.cons rfl ?_)), fun w' hw => ?_, by dsimp only; omega⟩
      dsimp only
      rw [em2]
      exact hw.fewer (by repeat (first | exact new_nil | refine new_ro ?_ | refine new_rx (by assumption) ?_ | refine new_cons (by first | assumption | omega) ?_)) (by repeat (first | exact List.Sublist.slnil | refine List.Sublist.cons_cons _ ?_ | refine List.Sublist.cons _ ?_))
    · repeat (first | refine T_region ?_ | refine S_nil ?_ | refine pthen_normal ?_ | refine inb_normal ?_ | refine T_skip ?_ | refine S_i64 tabOk rfl (by omega) ?_ | refine S_pure tabOk rfl ?_)
      refine ⟨(i + 1, a6, n6, c6, F6), ⟨by dsimp only; omega, hF6⟩, (by repeat (first | exact Sub.nil | refine Sub.cons rfl ?_)), fun w' hw => ?_, by dsimp only; omega⟩
      dsimp only
      rw [show min (i + 1) 9 = min i 9 by omega]
      exact hw.fewer (by repeat (first | exact new_nil | refine new_ro ?_ | refine new_rx (by assumption) ?_ | refine new_cons (by first | assumption | omega) ?_)) (by repeat (first | exact List.Sublist.slnil | refine List.Sublist.cons_cons _ ?_ | refine List.Sublist.cons _ ?_))
  have hin : i = n2 := by omega
  obtain ⟨D, hD⟩ : ∃ D, D = rs.take (min i 9) := ⟨_, rfl⟩
  rw [← hD]
  obtain ⟨Bd, hBd⟩ : ∃ B, B = min i 9 := ⟨_, rfl⟩
  rw [← hBd]
  have hBd9 : Bd ≤ 9 := by omega
  have hDp : ∀ y, Mem D y → 0 ≤ y := fun y ⟨r, hr, h, _⟩ => by
    have := fits_u64 (hrok r (List.mem_of_mem_take (hD ▸ hr))).1
    omega
  obtain ⟨sP, hsP⟩ : ∃ s : Int → Bool, s = fun n => decide (Mem D n) := ⟨_, rfl⟩
  obtain ⟨s1, hs1⟩ : ∃ s : Int → Bool, s = fun n => decide (Mem D n ∧ ¬ (cut ≤ n ∧ n ≤ lastN)) := ⟨_, rfl⟩
  obtain ⟨s2, hs2⟩ : ∃ s : Int → Bool, s = fun n => decide (Mem D n ∧ cut ≤ n) := ⟨_, rfl⟩
  refine T_kn (fun w1 g1 => bo_ok (g1.own _ (getE_mem (i := 2) rfl)).1) (fun ⟨_, hok, _⟩ => ?_)
  repeat (first | refine T_seq ?_ | refine T_region ?_ | refine pthen_normal ?_ | refine inb_hit ?_ | refine pthen_exit ?_ | refine T_exit ?_ | refine S_pure tabOk rfl ?_)
  refine S_callR (setP (· ∈ bNums gs) (bNums gs).length) (fun _ => False) rfl Try.call15 (fun w1 g1 => (bo_flight (g1.own _ (getE_mem (i := 2) rfl)).1).mono fun e w' ⟨r, e1, e2, e3⟩ => ⟨r, e1, e2, nbb g1 e3⟩) (fun v8 F8 w8 hF8 hv8 => ?_)
  obtain ⟨a8, n8, c8, rfl⟩ := setP_val hv8
  skip
  refine S_new tabOk rfl (fun b19 hb19 => ?_)
  repeat (first | refine T_seq ?_ | refine T_region ?_ | refine S_nil ?_ | refine S_pure tabOk rfl ?_ | refine S_load tabOk 3 rfl rfl rfl ?_ | refine S_store tabOk 0 rfl rfl rfl rfl rfl rfl ?_)
  refine S_btake 4 (s := sP) rfl rfl hN1 (fun w1 g1 => SArg.rep 2 4 g1 rfl rfl rfl (fun x => by rw [hsP]; simp)) (by omega) (fun A3 C3 F3 hN3 => ⟨_, rfl, ?_⟩)
  repeat (first | refine T_seq ?_ | refine S_nil ?_ | refine S_pure tabOk rfl ?_)
  refine T_drawM (by kernel_rfl) (by kernel_rfl) [3, 4, 8, 9, 10, 11] (by kernel_rfl) (by kernel_rfl) (by kernel_rfl) [.blk b16 (.cells ⟨[.slice a6 n6 c6]⟩ 35 (0, 0)) false] (noex_blk noex_nil)
    [some (bptr bb), some (setV a6 n6 c6), some (.int .u64 cut), none, none, some (bptr bb), some (setV a6 n6 c6), some (.int .u64 cut), none, none, none, none]
    ⟨.inr ⟨_, _, rfl, rfl, fun w f => D_pure tabOk rfl D_last⟩, .inr ⟨_, _, rfl, rfl, fun w f => D_load tabOk 0 rfl rfl rfl D_last⟩, .inr ⟨_, _, rfl, rfl, fun w f => D_pure tabOk rfl D_last⟩, .inl rfl, .inl rfl, .inr ⟨_, _, rfl, rfl, fun w f => D_pure tabOk rfl D_last⟩, .inr ⟨_, _, rfl, rfl, fun w f => D_load tabOk 0 rfl rfl rfl D_last⟩, .inr ⟨_, _, rfl, rfl, fun w f => D_pure tabOk rfl D_last⟩, .inl rfl, .inl rfl, .inl rfl, .inl rfl, trivial⟩ ?_
  refine SM_step [(87, setV a6 n6 c6), (88, .int .u64 cut)] (base_blk 4 rfl base_nil) rfl (.cons rfl rfl (.cons rfl rfl .nil)) ?_
  refine S_callR (setP (fun y => Mem D y ∧ ¬ (cut ≤ y ∧ y ≤ lastN)) (Bd + 1)) (fun _ => False) rfl Try.call17 (fun w1 g1 => (below_p cut w1 (g1.own _ (getE_mem (i := 3) rfl)).1 (by omega) hcut).mono fun e w' ⟨r, e1, e2, e3⟩ => ⟨r, e1, e2, nbb g1 e3⟩) (fun v F10 w1 hF10 hv => ?_)
  obtain ⟨ax, nx, cx, rfl⟩ := setP_val hv
  refine S_nil ⟨_, rfl, (fun u h => by cases h), ?_⟩
  refine SM_step [(86, bptr bb), (89, setV ax nx cx)] (base_blk 5 rfl base_nil) rfl (.cons rfl rfl (.cons rfl rfl .nil)) ?_
  refine S_btake 7 (s := s1) rfl rfl hM1 (fun w1 g1 => SArg.rep 0 7 g1 rfl rfl rfl (fun x => by rw [hs1, decide_eq_true_iff])) (by omega) (fun A4 C4 G4 hM4 => ⟨_, rfl, ?_⟩)
  refine S_nil ⟨_, rfl, (fun u h => by cases h), ?_⟩
  refine SM_step [(92, setV a6 n6 c6), (93, .int .u64 cut)] (base_blk 6 rfl base_nil) rfl (.cons rfl rfl (.cons rfl rfl .nil)) ?_
  refine S_callR (setP (fun y => Mem D y ∧ cut ≤ y) (Bd + 1)) (fun _ => False) rfl Try.call18 (fun w1 g1 => from_p cut w1 (fun k hk => BB_new g1 hk) (Vp.fact (p := setP (Mem D) Bd) g1 5 rfl fun k hk => .inr (hF6 k hk)) (by omega) hcut hDp) (fun v F11 w1 hF11 hv => ?_)
  obtain ⟨ay, ny, cy, rfl⟩ := setP_val hv
  refine S_nil ⟨_, rfl, (fun u h => by cases h), ?_⟩
  refine SM_step [(91, bptr bb), (94, setV ay ny cy)] (base_blk 7 rfl base_nil) rfl (.cons rfl rfl (.cons rfl rfl .nil)) ?_
  refine S_btake 9 (s := s2) rfl rfl hM4 (fun w1 g1 => SArg.rep 0 9 g1 rfl rfl rfl (fun x => by rw [hs2]; simp)) (by omega) (fun A5 C5 G5 hM5 => ⟨_, rfl, ?_⟩)
  refine S_nil ⟨_, rfl, (fun u h => by cases h), ?_⟩
  refine SM_step [(90, .slice A4 (sortU ((bNums gs).filter s1)).length C4)] (base_blk 8 rfl base_nil) rfl (.cons rfl rfl .nil) ?_
  refine S_pure tabOk rfl ?_
  refine S_nil ⟨_, rfl, (fun u h => by cases h), ?_⟩
  refine SM_step [(95, .slice A5 (sortU ((bNums (rmB gs s1)).filter s2)).length C5)] (base_blk 8 rfl base_nil) rfl (.cons rfl rfl .nil) ?_
  refine S_pure tabOk rfl ?_
  refine S_nil ⟨_, rfl, (fun u h => by cases h), ?_⟩
  refine SM_end [(3, .int .u64 cut), (10, bptr ba), (12, bptr bb), (16, .pointer (some ⟨b16, 0, none⟩)), (19, .pointer (some ⟨b19, 0, none⟩)), (20, .slice A3 (sortU ((bNums gs).filter sP)).length C3), (21, .slice A4 (sortU ((bNums gs).filter s1)).length C4), (22, .slice A5 (sortU ((bNums (rmB gs s1)).filter s2)).length C5)] (base_blk 8 rfl base_nil) (by repeat (first | exact SubD.nil | refine SubD.cons rfl ?_)) ?_
  have hcut2 := cut_two (D := Mem D) (cut := cut) hok
  rw [← hs1, ← hs2, ← hsP] at hcut2
  obtain ⟨hrm, happ⟩ := hcut2
  rw [hrm]
  obtain ⟨gs', hgs'⟩ : ∃ g, g = rmB gs sP := ⟨_, rfl⟩
  have hnm' : ∀ x, x ∈ bNums gs' ↔ x ∈ bNums gs ∧ ¬ Mem D x := fun x => by rw [hgs', nums_rm, List.mem_filter, hsP]; simp
  have htr : ∀ g ∈ gs', g.tries < 1099511627776 := fun g hg => by
    rw [hgs'] at hg
    obtain ⟨x, hx, rfl⟩ := rmB_memT hg
    rw [hgs] at hx
    have := stT_tries L M x hx
    show x.tries < _
    omega
  rw [← hgs']
  obtain ⟨U, hU⟩ : ∃ U, U = sortU ((bNums gs).filter sP) := ⟨_, rfl⟩
  obtain ⟨U1, hU1⟩ : ∃ U, U = sortU ((bNums gs).filter s1) := ⟨_, rfl⟩
  obtain ⟨U2, hU2⟩ : ∃ U, U = sortU ((bNums (rmB gs s1)).filter s2) := ⟨_, rfl⟩
  rw [← hU, ← hU1, ← hU2] at happ ⊢
  have hUl : U.length ≤ 60000 := by
    have h1 := @sortU_len ((bNums gs).filter sP)
    have h2 := List.length_filter_le sP (bNums gs)
    have h3 := hok.len
    rw [hU]
    omega
  have hUm : ∀ x, x ∈ U ↔ x ∈ bNums gs ∧ Mem D x := fun x => by rw [hU, sortU_mem, List.mem_filter, hsP, decide_eq_true_iff]
  have hUf : ∀ x ∈ U, Fits .u64 x := fun x hx => by
    obtain ⟨g, hg, h⟩ := List.mem_flatMap.1 ((hUm x).1 hx).1
    exact hok.fit g hg x h
  have hUa : U.length = U1.length + U2.length := by rw [happ, List.length_append]
  refine T_kn (fun w1 g1 => bo_ok (g1.own _ (getE_mem (i := 9) rfl)).1) (fun ⟨_, hok3, hne3⟩ => ?_)
  repeat (first | refine T_seq ?_ | refine T_region ?_ | refine S_pure tabOk rfl ?_)
  refine S_bdue 9 rfl rfl hN3 (by decide) htr (fun d1 dn c9 xs Fv F12 hFv hN12 hl1 => ⟨_, rfl, ?_⟩)
  repeat (first | refine S_pure tabOk rfl ?_)
  refine S_bdue 11 rfl rfl hM5 (by decide) htr (fun d2 dm c10 ys Gv G12 hGv hM12 hl2 => ⟨_, rfl, ?_⟩)
  obtain ⟨DL, hDL⟩ : ∃ DL, DL = dueL gs' 100 := ⟨_, rfl⟩
  rw [← hDL] at hl1 hl2 ⊢
  have hDb : DL.length ≤ 60000 := by
    have h1 : (dueL gs' 100).length ≤ gs'.length := by unfold dueL; rw [List.length_map]; exact dueI_len
    have h2 := hok3.cnt
    rw [← hDL] at h1
    omega
  obtain ⟨rfl, hxl⟩ := hl1
  obtain ⟨rfl, hyl⟩ := hl2
  repeat (first | refine T_seq ?_ | refine S_nil ?_ | refine S_pure tabOk rfl ?_)
  refine T_drawM (by kernel_rfl) (by kernel_rfl) [1, 5, 6, 7, 13, 14, 19, 22, 23] (by kernel_rfl) (by kernel_rfl) (by kernel_rfl) [.blk b16 (.cells ⟨[.slice a6 n6 c6]⟩ 35 (0, 0)) false, .blk b19 (.cells ⟨[.slice a8 n8 c8]⟩ 35 (0, 0)) false] (noex_blk (noex_blk noex_nil))
    [some (.slice A3 U.length C3), none, some (setV a8 n8 c8), some (setV a8 n8 c8), some (setV a6 n6 c6), none, none, some (.bool true), some (.bool false), some (.bool false), some (.slice A3 U.length C3), some (.slice A4 U1.length C4), some (.slice A5 U2.length C5), none, some (.bool true), some (.bool false), some (.bool false), some (.bool false),
      some (bptr ba), none, some (setV a8 n8 c8), some (setV a6 n6 c6), none, some (.bool true), some (.bool false), some (.bool false), some (.bool false), some (.slice d1 DL.length c9), some (.int .i64 (DL.length : Int)), some (.slice d2 DL.length c10), some (.int .i64 (DL.length : Int)), some (.bool false), some (.bool false)]
    ⟨.inr ⟨_, _, rfl, rfl, fun w f => D_pure tabOk rfl D_last⟩, .inl rfl, .inr ⟨_, _, rfl, rfl, fun w f => D_load tabOk 1 rfl rfl rfl D_last⟩, .inr ⟨_, _, rfl, rfl, fun w f => D_load tabOk 1 rfl rfl rfl D_last⟩, .inr ⟨_, _, rfl, rfl, fun w f => D_load tabOk 0 rfl rfl rfl D_last⟩, .inl rfl, .inl rfl, .inl rfl, .inr ⟨_, _, rfl, rfl, fun w f => D_pure tabOk rfl D_last⟩, .inr ⟨_, _, rfl, rfl, fun w f => D_pure tabOk rfl D_last⟩, .inr ⟨_, _, rfl, rfl, fun w f => D_pure tabOk rfl D_last⟩, .inr ⟨_, _, rfl, rfl, fun w f => D_pure tabOk rfl D_last⟩, .inr ⟨_, _, rfl, rfl, fun w f => D_pure tabOk rfl D_last⟩, .inl rfl, .inl rfl, .inr ⟨_, _, rfl, rfl, fun w f => D_pure tabOk rfl D_last⟩, .inr ⟨_, _, rfl, rfl, fun w f => D_pure tabOk rfl D_last⟩, .inr ⟨_, _, rfl, rfl, fun w f => D_pure tabOk rfl D_last⟩, .inr ⟨_, _, rfl, rfl, fun w f => D_pure tabOk rfl D_last⟩, .inl rfl, .inr ⟨_, _, rfl, rfl, fun w f => D_load tabOk 1 rfl rfl rfl D_last⟩, .inr ⟨_, _, rfl, rfl, fun w f => D_load tabOk 0 rfl rfl rfl D_last⟩, .inl rfl, .inl rfl, .inr ⟨_, _, rfl, rfl, fun w f => D_pure tabOk rfl D_last⟩, .inr ⟨_, _, rfl, rfl, fun w f => D_pure tabOk rfl D_last⟩, .inr ⟨_, _, rfl, rfl, fun w f => D_pure tabOk rfl D_last⟩, .inr ⟨_, _, rfl, rfl, fun w f => D_pure tabOk rfl D_last⟩, .inr ⟨_, _, rfl, rfl, fun w f => D_pure tabOk rfl D_last⟩, .inr ⟨_, _, rfl, rfl, fun w f => D_pure tabOk rfl D_last⟩, .inr ⟨_, _, rfl, rfl, fun w f => D_pure tabOk rfl D_last⟩, .inr ⟨_, _, rfl, rfl, fun w f => D_pure_eq tabOk rfl (congrArg Value.bool (decide_eq_false fun h => h rfl)) D_last⟩, .inr ⟨_, _, rfl, rfl, fun w f => D_pure tabOk rfl D_last⟩, trivial⟩ ?_
  refine SM_step [(100, .slice A3 U.length C3)] (base_blk 10 rfl (base_blk 7 rfl base_nil)) rfl (.cons rfl rfl .nil) ?_
  refine S_of (L := U) rfl (fun w1 g1 => ⟨_, row_slr (g1.own _ (getE_mem (i := 6) rfl)) rfl hUf⟩) (by omega) (fun aq nq cq Fq hFq => ?_)
  refine S_nil ⟨_, rfl, (fun u h => by cases h), ?_⟩
  refine SM_step [(103, setV a8 n8 c8), (104, setV a6 n6 c6)] (base_blk 11 rfl (base_blk 8 rfl base_nil)) rfl (.cons rfl rfl (.cons rfl rfl .nil)) ?_
  refine S_callR (setP (fun x => x ∈ bNums gs ∧ ¬ Mem D x) ((bNums gs).length + Bd)) (fun _ => False) rfl Try.call22 (fun w1 g1 => less_p w1 (fun k hk => BB_new g1 hk) (Vp.fact (p := setP (· ∈ bNums gs) (bNums gs).length) g1 9 rfl hF8) (g1.own _ (getE_mem (i := 10) rfl)).1 (by have := hok.len; omega)) (fun v F13 w1 hF13 hv => ?_)
  obtain ⟨ar, nr, cr, rfl⟩ := setP_val hv
  refine S_nil ⟨_, rfl, (fun u h => by cases h), ?_⟩
  refine SM_step [(102, setV a8 n8 c8), (105, setV ar nr cr)] (base_blk 12 rfl (base_blk 9 rfl base_nil)) rfl (.cons rfl rfl (.cons rfl rfl .nil)) ?_
  refine S_callR (setP (fun x => x ∈ bNums gs ∧ ¬ (x ∈ bNums gs ∧ ¬ Mem D x)) ((bNums gs).length + ((bNums gs).length + Bd))) (fun _ => False) rfl Try.call22 (fun w1 g1 => less_p w1 (fun k hk => BB_new g1 hk) (Vp.fact (p := setP (· ∈ bNums gs) (bNums gs).length) g1 10 rfl hF8) (g1.own _ (getE_mem (i := 0) rfl)).1 (by have := hok.len; omega)) (fun v F14 w1 hF14 hv => ?_)
  obtain ⟨at', nt, ct, rfl⟩ := setP_val hv
  refine S_nil ⟨_, rfl, (fun u h => by cases h), ?_⟩
  refine SM_step [(101, setV aq nq cq), (106, setV at' nt ct)] (base_blk 13 rfl (base_blk 10 rfl base_nil)) rfl (.cons rfl rfl (.cons rfl rfl .nil)) ?_
  refine S_callq (v := .bool true) rfl Try.call20 (fun w1 g1 => same_t w1 (g1.own _ (getE_mem (i := 2) rfl)).1 (g1.own _ (getE_mem (i := 0) rfl)).1 fun x => by rw [hUm]; exact ⟨fun h => ⟨h.1, fun h2 => h2.2 h.2⟩, fun h => ⟨h.1, Classical.byContradiction fun h2 => h.2 ⟨h.1, h2⟩⟩⟩) ?_
  refine S_nil ⟨_, rfl, (fun u h => by cases h; rfl), ?_⟩
  refine SM_step [(109, .bool false), (111, .slice A4 U1.length C4), (112, .slice A5 U2.length C5)] (base_blk 13 rfl (base_blk 10 rfl base_nil)) rfl (.cons rfl rfl (.cons rfl rfl (.cons rfl rfl .nil))) ?_
  refine S_append (ty := 0) (k := U2.length) (news := u64s U2) tabOk 7 (sz := 1) rfl rfl rfl rfl rfl rfl rfl rfl rfl (by decide) (fun w' hw => Sl.of_own (hw.own _ (getE_mem (i := 5) rfl))) (fun u hu => by obtain ⟨z, _, rfl⟩ := List.mem_map.1 hu; rfl) (by simp only [maxLen]; omega) (by show (_ + _) * 8 ≤ _; omega) rfl (fun A8 C8 hA8 hC8 => ⟨_, rfl, ?_⟩)
  refine S_nil ⟨_, rfl, (fun u h => by cases h), ?_⟩
  refine SM_step [(109, .bool false), (110, .slice A3 U.length C3), (113, .slice A8 (U1.length + U2.length) C8)] (base_blk 13 rfl (base_blk 10 rfl base_nil)) rfl (.cons rfl rfl (.cons rfl rfl (.cons rfl rfl .nil))) ?_
  refine S_eq64 (L := U) (M := U1 ++ U2) rfl (fun w1 g1 => Sl.of_own (g1.own _ (getE_mem (i := 9) rfl))) (fun w1 g1 => by rw [List.map_append]; exact Sl.of_own (g1.own _ (getE_mem (i := 7) rfl))) (fun _ _ => by simp only [maxLen]; omega) ?_
  refine S_nil ⟨_, rfl, (fun u h => by cases h; rw [decide_eq_true happ]), ?_⟩
  refine SM_step [(117, .bool false), (118, bptr ba)] (base_blk 13 rfl (base_blk 10 rfl base_nil)) rfl (.cons rfl rfl (.cons rfl rfl .nil)) ?_
  refine S_callR (setP (· ∈ bNums gs') (bNums gs').length) (fun _ => False) rfl Try.call15 (fun w1 g1 => (bo_flight (g1.own _ (getE_mem (i := 14) rfl)).1).mono fun e w' ⟨r, e1, e2, e3⟩ => ⟨r, e1, e2, nbb g1 (by rw [← dueG_nums 3 9 100 gs']; exact e3)⟩) (fun v F15 w1 hF15 hv => ?_)
  obtain ⟨au, nu, cu, rfl⟩ := setP_val hv
  refine S_nil ⟨_, rfl, (fun u h => by cases h), ?_⟩
  refine SM_step [(117, .bool false), (120, setV a8 n8 c8), (121, setV a6 n6 c6)] (base_blk 14 rfl (base_blk 11 rfl base_nil)) rfl (.cons rfl rfl (.cons rfl rfl (.cons rfl rfl .nil))) ?_
  refine S_callR (setP (fun x => x ∈ bNums gs ∧ ¬ Mem D x) ((bNums gs).length + Bd)) (fun _ => False) rfl Try.call22 (fun w1 g1 => less_p w1 (fun k hk => BB_new g1 hk) (Vp.fact (p := setP (· ∈ bNums gs) (bNums gs).length) g1 12 rfl hF8) (g1.own _ (getE_mem (i := 13) rfl)).1 (by have := hok.len; omega)) (fun v F16 w1 hF16 hv => ?_)
  obtain ⟨az, nz, cz, rfl⟩ := setP_val hv
  refine S_nil ⟨_, rfl, (fun u h => by cases h), ?_⟩
  refine SM_step [(117, .bool false), (119, setV au nu cu), (122, setV az nz cz)] (base_blk 15 rfl (base_blk 12 rfl base_nil)) rfl (.cons rfl rfl (.cons rfl rfl (.cons rfl rfl .nil))) ?_
  refine S_callq (v := .bool true) rfl Try.call20 (fun w1 g1 => same_t w1 (g1.own _ (getE_mem (i := 1) rfl)).1 (g1.own _ (getE_mem (i := 0) rfl)).1 hnm') ?_
  refine S_nil ⟨_, rfl, (fun u h => by cases h; rfl), ?_⟩
  refine SM_end [(23, .slice d1 DL.length c9), (24, .slice d2 DL.length c10), (132, .bool false)] (base_blk 15 rfl (base_blk 12 rfl base_nil)) (by repeat (first | exact SubD.nil | refine SubD.cons rfl ?_)) ?_
  refine T_cond_f rfl ?_
  repeat (first | refine T_seq ?_ | refine T_region ?_ | refine T_block ?_ | refine S_nil ?_ | refine pthen_normal ?_ | refine T_skip ?_ | refine S_pure tabOk rfl ?_)
  refine T_loop (ι := Nat) (fun j => [(23, .slice d1 DL.length c9), (24, .slice d2 DL.length c10), (134, .int .i64 (DL.length : Int)), (135, .int .i64 (j : Int))])
    (fun j => [.rep (fun w => (LLx d2 DL.length c10 ys DL).at_ w Gv (.bool true)) Gv false, .rep (fun w => (LLx d1 DL.length c9 xs DL).at_ w Fv (.bool true)) Fv false]) (fun j => j ≤ DL.length) (fun j => DL.length - j) 0 (Nat.zero_le _) (by repeat (first | exact Sub.nil | refine Sub.cons rfl ?_)) (fun w' hw => hw.fewer (by repeat (first | exact new_nil | refine new_ro ?_ | refine new_rx (by assumption) ?_ | refine new_cons (by first | assumption | omega) ?_ | refine newrow hw 7 rfl (Nat.le_refl _) ?_ | refine newrow hw 9 rfl (Nat.le_refl _) ?_ | refine newrow hw 11 rfl (Nat.le_refl _) ?_)) (by repeat (first | exact List.Sublist.slnil | refine List.Sublist.cons_cons _ ?_ | refine List.Sublist.cons _ ?_))) ?_
  intro j hj
  repeat (first | refine T_seq ?_ | refine T_region ?_ | refine S_nil ?_ | refine S_pure tabOk rfl ?_)
  refine T_cond_dec rfl (fun hlt => ?_) (fun hge => ?_)
  · have hin : j < DL.length := by omega
    obtain ⟨l', hl'⟩ : ∃ l', DL[j]? = some l' := ⟨_, List.getElem?_eq_getElem hin⟩
    obtain ⟨⟨xa, xn, xc⟩, hx⟩ : ∃ x, xs[j]? = some x := ⟨_, List.getElem?_eq_getElem (by omega)⟩
    obtain ⟨⟨ya, yn, yc⟩, hy⟩ : ∃ x, ys[j]? = some x := ⟨_, List.getElem?_eq_getElem (by omega)⟩
    have hne : l' ≠ [] := by
      obtain ⟨g, hg, _, rfl⟩ := (dueL_mem hok3).1 (hDL ▸ List.mem_of_getElem? hl')
      exact hne3 g hg
    have hlp : 0 < l'.length := List.length_pos_iff.2 hne
    refine T_kn (X := (∃ b off, d1 = some ⟨b, off, none⟩) ∧ (∃ b off, d2 = some ⟨b, off, none⟩) ∧ l'.length = xn ∧ l'.length = yn) (fun w1 g1 => ⟨LLx.addr (g1.own _ (getE_mem (i := 1) rfl)).1 (by omega), LLx.addr (g1.own _ (getE_mem (i := 0) rfl)).1 (by omega), (LLx.get (g1.own _ (getE_mem (i := 1) rfl)).1 hx hl').len, (LLx.get (g1.own _ (getE_mem (i := 0) rfl)).1 hy hl').len⟩) (fun ⟨⟨b5, o5, e5⟩, ⟨b6, o6, e6⟩, hxn, hyn⟩ => ?_)
    subst e5 e6 hxn hyn
    repeat (first | refine T_draw (by kernel_rfl) (by kernel_rfl) ?_ | refine D_pure tabOk rfl ?_ | refine T_seq ?_ | refine T_region ?_ | refine T_block ?_ | refine S_nil ?_ | refine pthen_normal ?_ | refine T_skip ?_ | refine S_pure tabOk rfl ?_)
    refine D_q (Q_idx (sz := 1) tabOk rfl rfl rfl rfl rfl rfl rfl (j := j) rfl hin) ?_
    refine D_load1 tabOk (v := .slice xa l'.length xc) rfl rfl (fun w1 h1 => by rw [Nat.mul_one]; exact LLx.cell (h1.own _ (getE_mem (i := 1) rfl)).1 hx) ?_
    repeat (first | refine D_pure tabOk rfl ?_)
    refine D_q (Q_idx (sz := 1) tabOk rfl rfl rfl rfl rfl rfl rfl (j := j) rfl hin) ?_
    refine D_load1 tabOk (v := .slice ya l'.length yc) rfl rfl (fun w1 h1 => by rw [Nat.mul_one]; exact LLx.cell (h1.own _ (getE_mem (i := 0) rfl)).1 hy) ?_
    refine D_callx rfl Try.call23 (v := .bool true) (fun w' vs hw' h => by
      obtain ⟨u1, _, rfl, rfl, u2, _, rfl, rfl, rfl⟩ := h
      rw [← show decide (l' = l') = true from decide_eq_true rfl]
      exact equal64_ok _ _ _ _ _ _ l' l' w' (LLx.get (hw'.own _ (getE_mem (i := 1) rfl)).1 hx hl').ints.sl (LLx.get (hw'.own _ (getE_mem (i := 0) rfl)).1 hy hl').ints.sl (LLx.get (hw'.own _ (getE_mem (i := 1) rfl)).1 hx hl').maxn) ?_
    repeat (first | refine D_pure tabOk rfl ?_)
    refine D_q (Q_idx (sz := 1) tabOk rfl rfl rfl rfl rfl rfl rfl (j := j) rfl hin) ?_
    refine D_load1 tabOk (v := .slice xa l'.length xc) rfl rfl (fun w1 h1 => by rw [Nat.mul_one]; exact LLx.cell (h1.own _ (getE_mem (i := 1) rfl)).1 hx) ?_
    repeat (first | refine D_all rfl ?_ | refine D_pure tabOk rfl ?_)
    refine T_cond_dec rfl (fun h => absurd h (by omega)) (fun _ => ?_)
    repeat (first | refine T_region ?_ | refine S_nil ?_ | refine pthen_normal ?_ | refine inb_normal ?_ | refine T_skip ?_ | refine S_i64 tabOk rfl (by omega) ?_ | refine S_pure tabOk rfl ?_)
    exact ⟨j + 1, hin, (by repeat (first | exact Sub.nil | refine Sub.cons rfl ?_)), fun w' hw => hw, by omega⟩
  repeat (first | refine T_seq ?_ | refine T_region ?_ | refine S_nil ?_ | refine pthen_normal ?_ | refine inb_hit ?_ | refine pthen_exit ?_ | refine T_ret ?_ | refine T_exit ?_ | refine S_pure tabOk rfl ?_)
  exact ret1 rfl rfl (fun w' hw => ⟨rfl, hw.below (by repeat (first | exact new_nil | refine new_ro ?_))⟩)
end Go.Proofs.Ytanhmmfpecgbhaa
