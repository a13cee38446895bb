/-
  A queue's Drop. Conditions: each theorem's own.
-/
import Derived.Test.YteogkadjambmkaaQuK
namespace Go.Proofs.Yteogkadjambmkaa
open Go Go.RowKit
set_option linter.unusedVariables false

section
variable {qb : Nat} {cap last : Int} {ws : List Int} {L : List QE} {K : Nat} {w : World} {F : Nat → Prop}
set_option maxHeartbeats 2000000 in
theorem q_drop (h : (quA qb cap last ws L K).at_ w F (.bool true)) (hF : ∀ k, F k → k < w.heap.size) (hok : QOk cap last ws L) (hlen : L.length ≤ 65536) (n : Int) : Calls Try.prog 36 #[qptr qb, .int .u64 n] w fun e w' => ∃ a c, e = .returned (.tuple #[.agg #[.int .i64 (qGot L n).1, .slice a (qGot L n).2.1.length c], .int .i64 (if (qGot L n).2.2 = true then 0 else 4)]) ∧
    Hp w w' [.row w.heap.size (.slice a (qGot L n).2.1.length c) 5 1 (qGot L n).2.1.length ((qGot L n).2.1.map (.int .u8)), .rep (fun w => (quA qb cap last ws (qDel L n) K).at_ w F (.bool true)) F true] := by
  obtain ⟨mb, bys, s, M, cc, wv, lv, bv, hS, hN, hbys, hcK, hsc⟩ := h
  have hst := Hp.startO (p := quV qb mb cap last ws bys s M cc L wv lv bv) (v := .bool true) hS hF
  refine enter2 Try.func36 rfl rfl hst ?_
  repeat (first | refine T_seq ?_ | refine T_region ?_)
  refine S_new tabOk rfl (fun b4 hb4 => ?_)
  repeat (first | refine T_seq ?_ | refine T_region ?_ | refine S_nil ?_ | refine S_pure tabOk rfl ?_)
  refine S_call rfl Try.call30 (fun w1 h1 => (q_get (K := K) ⟨mb, bys, s, M, cc, wv, lv, bv, (h1.own _ (getE_mem (i := 1) rfl)).1, hN, hbys, hcK, hsc⟩ hok n).mono fun e w' ⟨a, c, e1, hb1, hr⟩ => ⟨_, _, e1, h1.fresh hb1 (x := .row w.heap.size (.slice a (qGot L n).2.1.length c) 5 1 (qGot L n).2.1.length ((qGot L n).2.1.map (.int .u8))) (own_rebase hr h1.size) (fun j hj => (World.ownsRow.lt hr j hj).1), ?_⟩)
  repeat (first | refine S_pure tabOk rfl ?_)
  refine S_new tabOk rfl (fun b6 hb6 => ?_)
  repeat (first | refine T_seq ?_ | refine T_region ?_ | refine S_nil ?_ | refine S_pure tabOk rfl ?_ | refine S_store tabOk 0 rfl rfl rfl rfl rfl rfl ?_)
  cases hg : mGet M n with
  | none =>
    have hm := hS.ml.miss hg
    have hgot : qGot L n = (0, [], false) := by unfold qGot; rw [hm]
    have hdel : qDel L n = L := qDel_none (by rw [← hS.ml.keys]; exact mGet_mem.1 hg)
    rw [hgot, hdel]
    dsimp only
    refine T_cond_t rfl ?_
    repeat (first | refine T_seq ?_ | refine T_region ?_ | refine S_nil ?_ | refine pthen_ret ?_ | refine T_ret ?_ | refine S_pure tabOk rfl ?_ | refine S_store tabOk 2 rfl rfl rfl rfl rfl rfl ?_ | refine S_q (Q_build tabOk rfl rfl rfl rfl rfl rfl rfl) ?_)
    exact ret2 rfl (ResIs.cellO tabOk 2 rfl rfl rfl rfl) rfl (fun w' hw => ⟨none, 0, rfl, by
      refine ((hw.turnX 3 rfl (Ψ := fun w => (quA qb cap last ws L K).at_ w F (.bool true)) (fun h9 => ⟨mb, bys, s, M, cc, wv, lv, bv, h9, hN, hbys, hcK, hsc⟩) Vp.loc rfl).less (by repeat (first | exact Less.nil | refine Less.keep ?_ | refine Less.dropB (by first | assumption | omega) ?_ | refine Less.dropW (Nat.le_refl _) ?_))).fresh (Below.refl _ _) (World.ownsRow_nil w' _ _ _) (fun j hj => by cases hj)⟩)
  | some u =>
    obtain ⟨i, p, x, hp, hx, rfl, rfl, hf⟩ := hS.ml.hit hS.mok.keys hg
    have hgot : qGot L x.1 = (x.2.1, x.2.2, true) := by unfold qGot; rw [hf]
    rw [hgot]
    dsimp only
    have hxm := List.mem_of_getElem? hx
    have hxc := hok.cls x hxm
    have hbl : bys.length = ws.length := by rw [hbys]; simp
    refine T_cond_f rfl ?_
    refine T_toX (ι := Nat × Nat × List Value) (fun i => bv = .slice (some ⟨i.1, 0, none⟩) bys.length i.2.1 ∧ bys.length ≤ i.2.1 ∧ i.2.1 ≤ maxLen ∧ (bys.map (Value.int .i64) ++ i.2.2).length = i.2.1 ∧ F i.1)
      (fun i => [.blk qb (quC cap wv mb lv bv last) true, .blk mb (mapO .u64 M cc) true, .blk i.1 (.cells ⟨bys.map (Value.int .i64) ++ i.2.2⟩ 3 (0, 0)) true, .blk b6 (.cells ⟨[.int .i64 x.2.1, .slice a x.2.2.length c]⟩ 52 (0, 0)) true, .blk b4 (.cells ⟨[.int .i64 0, .slice none 0 0]⟩ 52 (0, 0)) true, .row w.heap.size (.slice a x.2.2.length c) 5 1 x.2.2.length (x.2.2.map (.int .u8)),
        .rep (fun w => (quR ws s M L wv lv).at_ w (fun k => F k ∧ ¬ (k = qb ∨ k = mb ∨ k = i.1)) (.bool true)) (fun k => F k ∧ ¬ (k = qb ∨ k = mb ∨ k = i.1)) true]) (fun w1 h1 => ?_) ?_
    · obtain ⟨g, cb, junk, e1, e2, e3, e4, e5, e6⟩ := QuS.split (h1.pm [3, 0, 1, 2] rfl rfl rfl) (by omega)
      exact ⟨(g, cb, junk), ⟨e1, e2, e3, e4, e5⟩, e6.pm [0, 1, 2, 4, 6, 5, 3] rfl rfl rfl⟩
    rintro ⟨g, cb, junk⟩ ⟨e1, hcb, hcm, hjl, hFg⟩
    dsimp only at e1 hcb hcm hjl hFg ⊢
    subst e1
    repeat (first | refine T_seq ?_ | refine T_region ?_ | refine pthen_normal ?_ | refine T_skip ?_ | refine S_pure tabOk rfl ?_ | refine S_load tabOk 0 rfl rfl rfl ?_)
    refine S_deleteN tabOk 1 rfl rfl rfl rfl rfl rfl rfl rfl rfl ?_
    repeat (first | refine T_seq ?_ | refine S_nil ?_)
    obtain ⟨j, hj, hjc⟩ : ∃ j : Nat, (j : Int) = x.2.1 ∧ j < bys.length := ⟨x.2.1.toNat, by omega, by omega⟩
    have hbj : bys[j] = bsum L j := by simp [hbys]
    have hbn := bsum_nn L j
    have hsz := size_sum L fun x hx => (hok.cls x hx).2.2.2
    rw [← hbj] at hbn
    refine T_drawT (by kernel_rfl) 12 rfl (by kernel_rfl) ?_
    repeat (first | refine D_pure tabOk rfl ?_ | refine D_load tabOk 0 rfl rfl rfl ?_ | refine D_load tabOk 3 rfl rfl rfl ?_)
    refine D_q (Q_idx1 tabOk rfl rfl rfl rfl rfl rfl rfl (j := j) (by omega) (by omega)) ?_
    refine D_load1 tabOk (v := .int .i64 bys[j]) rfl rfl (fun w' hw => blkc (hw.pm [2, 0, 1] rfl rfl rfl) (by rw [List.getElem?_append_left (by rw [List.length_map]; exact hjc), List.getElem?_map, List.getElem?_eq_getElem hjc]; rfl)) ?_
    repeat (first | refine D_load tabOk 3 rfl rfl rfl ?_)
    refine D_callx (v := .int .i64 ((x.2.2.length : Int) + 16)) rfl Try.call35 (fun w' vs hw' h => by
      obtain ⟨u1, _, rfl, rfl, rfl⟩ := h
      exact spsize_ok x.2.1 a x.2.2.length c w' (by omega)) ?_
    repeat (first | refine D_i64 tabOk rfl (by omega) ?_)
    refine D_q (Q_idx1 tabOk rfl rfl rfl rfl rfl rfl rfl (j := j) (by omega) (by omega)) ?_
    repeat (first | refine D_all rfl ?_)
    obtain ⟨bys', hb'⟩ : ∃ b', b' = bys.set j (bys[j] - ((x.2.2.length : Int) + 16)) := ⟨_, rfl⟩
    have hl' : bys'.length = bys.length := by rw [hb', List.length_set]
    have hbys' : bys' = (List.range ws.length).map (bsum (qDel L x.1)) := by
      rw [hb', hbj, hbys]
      refine bys_set (by omega) ?_ fun c hc => ?_
      · rw [bsum_del hok.nodup hxm, if_pos hj.symm]
        rfl
      · rw [bsum_del hok.nodup hxm, if_neg (by omega)]
        omega
    refine S_store_of tabOk 2 (cs' := bys'.map (Value.int .i64) ++ junk) rfl rfl (fun u hu => by rw [List.mem_singleton] at hu; subst hu; rfl) rfl (by
      rw [Nat.zero_add]
      refine (setMany_1 (by rw [List.length_append, List.length_map]; omega)).trans (congrArg some ?_)
      rw [List.set_append_left _ _ (by rw [List.length_map]; exact hjc), hb', List.map_set]) rfl ?_
    repeat (first | refine T_seq ?_ | refine T_region ?_ | refine S_nil ?_ | refine T_ret ?_ | refine S_pure tabOk rfl ?_ | refine S_load tabOk 3 rfl rfl rfl ?_ | refine S_store tabOk 4 rfl rfl rfl rfl rfl rfl ?_)
    exact ret2 rfl (ResIs.cellO tabOk 4 rfl rfl rfl rfl) rfl (fun w' hw => ⟨a, c, rfl, by
      have h1 := (hw.pm [0, 1, 2, 6, 3, 4, 5] rfl rfl rfl).turnX 3 rfl (Ψ := fun w => (quR ws s (mDel M x.1) (qDel L x.1) wv lv).at_ w _ (.bool true)) (fun h9 => QuR.del hok.nodup x.1 h9) Vp.loc rfl
      rw [← hl'] at h1 hcb
      have h2 := QuR.join (F' := F) h1 hcb hcm (by rw [← hjl]; simp only [List.length_append, List.length_map, hl']) (hS.mok.del x.1) hS.sl fun k => ⟨fun hk => ?_, fun hk => ?_⟩
      · refine ((h2.turnX 0 rfl (Ψ := fun w => (quA qb cap last ws (qDel L x.1) K).at_ w F (.bool true)) (fun h9 => ⟨mb, bys', s, _, cc, wv, lv, _, h9, hN.less fun y hy => (qDel_sub L x.1).subset hy, hbys', hcK, hsc⟩) Vp.loc rfl).pm [3, 0, 1, 2] rfl rfl rfl).less (by repeat (first | exact Less.nil | refine Less.keep ?_ | refine Less.dropB (by first | assumption | omega) ?_))
      · by_cases k1 : k = qb ∨ k = mb ∨ k = g
        · exact .inr k1
        · exact .inl ⟨hk, k1⟩
      · rcases hk with hk | rfl | rfl | rfl
        · exact hk.1
        · exact hS.Fq
        · exact hS.Fm
        · exact hFg⟩)
end
end Go.Proofs.Yteogkadjambmkaa
