/-
  The law BoardOnce: its walk. Conditions: each theorem's own.
-/
import Derived.Test.YtanhmmfpecgbhaaBoL
namespace Go.Proofs.Ytanhmmfpecgbhaa
open Go Go.RowKit
set_option linter.unusedVariables false

section
variable {f m last now : Int} {gs : List BG} {l : List Int}
theorem bSend_nums {n : Int} : n ∈ bNums (bSend f m gs last now l).1 ↔ n ∈ bNums gs ∨ n ∈ l := by
  unfold bSend
  split
  · rename_i h
    constructor
    · exact .inl
    · rintro (h1 | h1)
      · exact h1
      · by_cases h2 : n ∈ bNums gs
        · exact h2
        · have := newL_mem.2 ⟨h1, h2⟩
          rw [h] at this
          cases this
  · show n ∈ bNums (gs ++ [_]) ↔ _
    rw [bNums, List.flatMap_append, List.mem_append]
    constructor
    · rintro (h1 | h1)
      · exact .inl h1
      · have : n ∈ newL gs l := by simpa using h1
        exact .inr (newL_mem.1 this).1
    · rintro (h1 | h1)
      · exact .inl h1
      · by_cases h2 : n ∈ bNums gs
        · exact .inl h2
        · have : n ∈ newL gs l := newL_mem.2 ⟨h1, h2⟩
          exact .inr (by simpa using this)
theorem newL_len : (newL gs l).length ≤ l.length := Nat.le_trans sortU_len (List.length_filter_le _ _)
theorem bSend_len : (bNums (bSend f m gs last now l).1).length ≤ (bNums gs).length + l.length ∧ (bSend f m gs last now l).1.length ≤ gs.length + 1 ∧ last ≤ (bSend f m gs last now l).2.1 ∧ (bSend f m gs last now l).2.1 ≤ last + 1 := by
  unfold bSend
  split
  · exact ⟨Nat.le_add_right _ _, Nat.le_succ _, Int.le_refl _, by show last ≤ last + 1; omega⟩
  · have := newL_len (gs := gs) (l := l)
    refine ⟨?_, by simp, by show last ≤ last + 1; omega, Int.le_refl _⟩
    show (bNums (gs ++ [_])).length ≤ _
    rw [bNums, List.flatMap_append, List.length_append]
    simp only [List.flatMap_cons, List.flatMap_nil, List.append_nil]
    show _ ≤ (gs.flatMap BG.L).length + l.length
    omega
theorem bSend_mem {g : BG} (h : g ∈ (bSend f m gs last now l).1) : g ∈ gs ∨ (g.tm = now + W f m 0 ∧ g.tries = 1) := by
  unfold bSend at h
  split at h
  · exact .inl h
  · rcases List.mem_append.1 h with h | h
    · exact .inl h
    · rw [List.mem_singleton] at h
      exact .inr (by rw [h]; exact ⟨rfl, rfl⟩)
theorem bSend_old (h : ∀ n ∈ l, n ∈ bNums gs) : bSend f m gs last now l = (gs, last, 0) := by
  have : newL gs l = [] := by
    cases e : newL gs l with
    | nil => rfl
    | cons x t =>
      have hx : x ∈ newL gs l := by rw [e]; exact List.mem_cons_self
      exact absurd (h x (newL_mem.1 hx).1) (newL_mem.1 hx).2
  exact if_pos this
/-- whoever is due is told; if all are, all are told -/
theorem dueL_mem (hok : BOk last gs) {L : List Int} : L ∈ dueL gs now ↔ ∃ g ∈ gs, g.tm ≤ now ∧ g.L = L := by
  unfold dueL
  rw [List.mem_map]
  constructor
  · rintro ⟨id, h1, rfl⟩
    obtain ⟨g, hg, rfl⟩ := dueI_sub h1
    refine ⟨g, hg, (dueI_mem hok hg).1 h1, ?_⟩
    unfold lOf
    rw [bId_mem hok hg]
  · rintro ⟨g, hg, h1, rfl⟩
    refine ⟨g.id, (dueI_mem hok hg).2 h1, ?_⟩
    unfold lOf
    rw [bId_mem hok hg]
theorem due_nd (hok : BOk last gs) : (dueL gs now).flatten.Nodup := by
  have key : ∀ I : List Int, I.Nodup → (∀ id ∈ I, ∃ g ∈ gs, g.id = id) → ((I.map (lOf gs)).flatten).Nodup := fun I => by
    induction I with
    | nil => exact fun _ _ => List.nodup_nil
    | cons id I ih =>
      intro hn hs
      rw [List.nodup_cons] at hn
      rw [List.map_cons, List.flatten_cons, List.nodup_append]
      have lo : ∀ {g : BG}, g ∈ gs → lOf gs g.id = g.L := fun hg => by unfold lOf; rw [bId_mem hok hg]
      obtain ⟨g, hg, rfl⟩ := hs id List.mem_cons_self
      refine ⟨by rw [lo hg]; exact lt_nodup (hok.srt g hg), ih hn.2 fun i hi => hs i (List.mem_cons_of_mem _ hi), fun a ha b hb e => ?_⟩
      subst e
      obtain ⟨L, hL, hb⟩ := List.mem_flatten.1 hb
      obtain ⟨i, hi, rfl⟩ := List.mem_map.1 hL
      obtain ⟨g2, hg2, rfl⟩ := hs i (List.mem_cons_of_mem _ hi)
      rw [lo hg] at ha
      rw [lo hg2] at hb
      have := nums_one hok.nd hg hg2 ha hb
      subst this
      exact hn.1 hi
  exact key _ (dueI_nd hok) fun id h => dueI_sub h
theorem due_nums (hok : BOk last gs) (ha : ∀ g ∈ gs, g.tm ≤ now) (n : Int) : n ∈ (dueL gs now).flatten ↔ n ∈ bNums gs := by
  rw [List.mem_flatten]
  constructor
  · rintro ⟨L, h1, h2⟩
    obtain ⟨g, hg, _, rfl⟩ := (dueL_mem hok).1 h1
    exact List.mem_flatMap.2 ⟨g, hg, h2⟩
  · intro h
    obtain ⟨g, hg, h2⟩ := List.mem_flatMap.1 h
    exact ⟨g.L, (dueL_mem hok).2 ⟨g, hg, ha g hg, rfl⟩, h2⟩
theorem dueG_nums (f m now : Int) (gs : List BG) : bNums (dueG f m now gs) = bNums gs := nums_map (q := fun g => if g.tm ≤ now then ⟨g.id, g.L, now + W f m g.tries.toNat, g.tries + 1⟩ else g) (fun g => by by_cases h : g.tm ≤ now <;> simp [h]) gs
end
section
variable {P : Program} {tb : Tab} {n : Nat} {w0 : World} {all : Array Oper} {o : Oper} {ol : OL} {d : Nat} {r : Nat → Option Value}
/-- 'm[k]': not there -/
theorem Q_lookN (ht : TabOk P tb) {mt kt et : TypeId} {x ix : Operand} {κ : IntKind} {b : Nat} {k : Int} {M : List ME} {c : Nat} {tm tk te : TI} {v : Value} (hs : opAt? n all r o = some (d, .lookup mt x ix false)) (hx : ev r x = some (.map (some b))) (hi : ev r ix = some (.int κ k))
    (htm : tl tb mt = some tm) (hdm : tm.desc = .map kt et) (htk : tl tb kt = some tk) (hdk : tk.desc = .int κ) (hte : tl tb et = some te) (hb : ∀ w, Hp w0 w ol → w.heap[b]? = some (mapO κ M c)) (hg : mGet M k = none) (hz : te.zero = v) : QOp P n w0 all r ol o d v := by
  subst hz
  have h := Q_lookup (w0 := w0) (ol := ol) ht hs hx hi htm hdm htk hdk hte hb
  unfold mGet at hg
  cases hm : mIdx k M 0 with
  | none => rw [hm] at h; exact h
  | some p => rw [hm] at hg; cases hg
end
/-- how many are in a map -/
structure Seen (M : List ME) (ps : List Int) : Prop where
  len : M.length = ps.length
  get : ∀ k, mGet M k = if k ∈ ps then some (.int .i64 1) else none
theorem Seen.nil : Seen [] [] := ⟨rfl, fun k => by simp [mGet_nil]⟩
theorem Seen.put {M : List ME} {ps : List Int} {n : Int} {c : Nat} (h : Seen M ps) (hn : n ∉ ps) : Seen (mPut M n (.int .i64 1) c).1 (ps ++ [n]) := by
  have h1 : n ∉ M.map (·.1) := by
    rw [← mGet_mem, h.get, if_neg hn]
  refine ⟨by rw [mPut_fresh n _ c M h1, List.length_append, List.length_append, h.len]; rfl, fun k => ?_⟩
  rw [mGet_put, h.get]
  by_cases e : k = n
  · rw [if_pos e, if_pos (by rw [e]; simp)]
  · rw [if_neg e]
    by_cases e2 : k ∈ ps
    · rw [if_pos e2, if_pos (List.mem_append.2 (.inl e2))]
    · rw [if_neg e2, if_neg fun h => (List.mem_append.1 h).elim e2 fun h => e (List.mem_singleton.1 h)]
set_option maxHeartbeats 8000000 in
theorem boardOnce_walk (v0 : Value) (l0 : List Int) (v1 : Value) (m0 : List Int) (W : World) (hv0 : (Rslice (Rint .u64)).val W TT v0 l0) (hv1 : (Rslice (Rint .u64)).val W TT v1 m0) : Calls Try.prog 7 #[v0, v1] W fun e W' => e = .returned (.bool true) ∧ Below W.heap.size W W' := by
  obtain ⟨a0, n0, c0, rfl, h0⟩ := SlR.form hv0
  obtain ⟨a1, n1, c1, rfl, h1⟩ := SlR.form hv1
  have h0' := h0.take (k := min n0 20) (by omega)
  have h1' := h1.take (k := min n1 20) (by omega)
  have hc0 := h0.cap
  have hc1 := h1.cap
  obtain ⟨ln, hln⟩ : ∃ ln, ln = min n0 20 := ⟨_, rfl⟩
  obtain ⟨mn, hmn⟩ : ∃ mn, mn = min n1 20 := ⟨_, rfl⟩
  obtain ⟨L, hL⟩ : ∃ L, L = l0.take (min n0 20) := ⟨_, rfl⟩
  obtain ⟨M, hM⟩ : ∃ M, M = m0.take (min n1 20) := ⟨_, rfl⟩
  rw [← hL, ← hln] at h0'
  rw [← hM, ← hmn] at h1'
  have hLl := h0'.len
  have hMl := h1'.len
  refine enter2 Try.func7 rfl rfl (Hp.refl W) ?_
  repeat (first | refine T_seq ?_ | refine T_region ?_ | refine S_nil ?_ | refine S_pure tabOk rfl ?_)
  refine S_callq (v := .bool true) rfl Try.call11 (fun w1 h1 => awake13_ok w1) ?_
  repeat (first | refine S_nil ?_ | refine S_pure tabOk rfl ?_)
  refine T_cond_f rfl ?_
  repeat (first | refine T_draw (by kernel_rfl) (by kernel_rfl) ?_ | refine D_pure tabOk rfl ?_ | refine T_seq ?_ | refine pthen_normal ?_ | refine T_skip ?_)
  refine D_q (Q_sliceTo tabOk rfl rfl rfl rfl rfl rfl (H := ln) (by omega) (by omega)) ?_
  repeat (first | refine D_pure tabOk rfl ?_)
  refine D_q (Q_sliceTo tabOk rfl rfl rfl rfl rfl rfl (H := mn) (by omega) (by omega)) ?_
  repeat (first | refine D_all rfl ?_ | refine D_pure tabOk rfl ?_ | refine T_seq ?_ | refine T_region ?_ | refine S_q (Q_build tabOk rfl rfl rfl rfl rfl rfl rfl) ?_)
  refine S_bnew (by decide) rfl (fun bb F0 hN0 => ?_)
  repeat (first | refine T_seq ?_ | refine T_region ?_ | refine S_nil ?_ | refine S_pure tabOk rfl ?_)
  refine S_bsend 0 (L := L) rfl rfl hN0 (fun w1 g1 => Arg.old h0' g1 (by repeat (first | exact new_nil | refine new_rx (by assumption) ?_)) hN0) (by decide) (by rw [show (bNums []).length = 0 from rfl]; omega) (by decide) (by decide) (fun F1 hN1 => ⟨_, rfl, ?_⟩)
  obtain ⟨q1, q2, q3, q4⟩ := bSend_len (f := 1) (m := 1) (gs := []) (last := 0) (now := 0) (l := L)
  have q5 : ∀ n, n ∈ bNums (bSend 1 1 [] 0 0 L).1 ↔ n ∈ L := fun n => by rw [bSend_nums]; simp
  have q6 : ∀ g ∈ (bSend 1 1 [] 0 0 L).1, g.tm = 1 ∧ g.tries = 1 := fun g hg => (bSend_mem hg).elim (fun h => by cases h) fun h => ⟨h.1, h.2⟩
  obtain ⟨⟨gs1, la1, id1⟩, hs1⟩ : ∃ p, p = bSend 1 1 [] 0 0 L := ⟨_, rfl⟩
  rw [← hs1] at q1 q2 q3 q4 q5 q6 ⊢
  dsimp only at q1 q2 q3 q4 q5 q6 ⊢
  rw [show (bNums []).length = 0 from rfl, Nat.zero_add] at q1
  rw [List.length_nil, Nat.zero_add] at q2
  repeat (first | refine T_seq ?_ | refine T_region ?_ | refine S_nil ?_ | refine S_pure tabOk rfl ?_)
  refine S_bsend 0 (L := M) rfl rfl hN1 (fun w1 g1 => Arg.old h1' g1 (by repeat (first | exact new_nil | refine new_rx (by assumption) ?_)) hN1) (by decide) (by omega) (by omega) (by omega) (fun F2 hN2 => ⟨_, rfl, ?_⟩)
  obtain ⟨r1, r2, r3, r4⟩ := bSend_len (f := 1) (m := 1) (gs := gs1) (last := la1) (now := 0) (l := M)
  have r5 : ∀ n, n ∈ bNums (bSend 1 1 gs1 la1 0 M).1 ↔ n ∈ L ∨ n ∈ M := fun n => by rw [bSend_nums, q5]
  have r6 : ∀ g ∈ (bSend 1 1 gs1 la1 0 M).1, g.tm = 1 ∧ g.tries = 1 := fun g hg => (bSend_mem hg).elim (q6 g) fun h => ⟨h.1, h.2⟩
  obtain ⟨⟨gs2, la2, id2⟩, hs2⟩ : ∃ p, p = bSend 1 1 gs1 la1 0 M := ⟨_, rfl⟩
  rw [← hs2] at r1 r2 r3 r4 r5 r6 ⊢
  dsimp only at r1 r2 r3 r4 r5 r6 ⊢
  repeat (first | refine T_seq ?_ | refine T_region ?_ | refine S_nil ?_ | refine S_pure tabOk rfl ?_)
  refine S_callrow (m := ln) (xs := u64s L) (E := 24) (sz := 1) rfl Try.call37 (fun w1 g1 => by
    have hI := (h0'.ext (g1.below (by repeat (first | exact new_nil | refine new_rx (by assumption) ?_)))).ints
    exact cloneU_ok a0 ln c0 L w1 hI.sl (fun h => (hI.nil h).1) (by omega)) (fun a7 c7 hc7 hd7 => ?_)
  repeat (first | refine S_pure tabOk rfl ?_)
  refine S_append (ty := 0) (k := mn) (news := u64s M) tabOk 0 (sz := 1) rfl rfl rfl rfl rfl rfl rfl rfl rfl (by decide) (fun w' hw => (h1'.ext (hw.below (by repeat (first | exact new_nil | refine new_rx (by assumption) ?_ | refine newrow hw 0 rfl (Nat.le_refl _) ?_)))).ints.sl) (fun u hu => by obtain ⟨z, _, rfl⟩ := List.mem_map.1 hu; rfl) (by simp only [maxLen]; omega) (by show (_ + _) * 8 ≤ _; omega) rfl (fun A8 C8 hA8 hC8 => ⟨_, rfl, ?_⟩)
  obtain ⟨AL, hAL⟩ : ∃ AL, AL = L ++ M := ⟨_, rfl⟩
  rw [show u64s L ++ u64s M = u64s AL from by rw [hAL, u64s, u64s, u64s, List.map_append]]
  have hALl : AL.length = ln + mn := by rw [hAL, List.length_append]; omega
  rw [← hALl]
  have hALm : ∀ n, n ∈ AL ↔ n ∈ bNums gs2 := fun n => by rw [hAL, List.mem_append, r5]
  have hALf : ∀ n ∈ AL, Fits .u64 n := fun n hn => (List.mem_append.1 (hAL ▸ hn)).elim (h0'.ints.fits n) (h1'.ints.fits n)
  refine S_kn (fun w1 g1 => bo_ok (g1.own _ (getE_mem (i := 1) rfl)).1) (fun ⟨hp2, hok2, hne2⟩ => ?_)
  repeat (first | refine T_seq ?_ | refine T_region ?_ | refine S_nil ?_ | refine S_pure tabOk rfl ?_)
  refine S_makemap rfl .u64 (fun mb hmb => ?_)
  repeat (first | refine T_seq ?_ | refine T_region ?_ | refine S_nil ?_ | refine S_pure tabOk rfl ?_)
  refine S_bdue 2 rfl rfl hN2 (by decide) (fun g hg => by have := (r6 g hg).2; omega) (fun a5 n5 c5 xs Fv F3 hFv hN3 hl5 => ⟨_, rfl, ?_⟩)
  obtain ⟨DL, hDL⟩ : ∃ DL, DL = dueL gs2 5 := ⟨_, rfl⟩
  have hDn : DL.flatten.Nodup := hDL ▸ due_nd hok2
  have hDm : ∀ n, n ∈ DL.flatten ↔ n ∈ bNums gs2 := hDL ▸ due_nums hok2 fun g hg => by have := (r6 g hg).1; omega
  rw [← hDL] at hl5 ⊢
  obtain ⟨rfl, hxl⟩ := hl5
  have hb2 := hok2.len
  have hDb : DL.length ≤ 60000 := by
    have h1 : (dueL gs2 5).length ≤ gs2.length := by unfold dueL; rw [List.length_map]; exact dueI_len
    have h2 := hok2.cnt
    rw [← hDL] at h1
    omega
  have hDlb : ∀ l' ∈ DL, l'.length ≤ 60000 := fun l' h => by
    obtain ⟨g, hg, _, rfl⟩ := (dueL_mem hok2).1 (hDL ▸ h)
    have := nums_le hg
    omega
  repeat (first | refine T_block ?_ | refine S_nil ?_ | refine S_pure tabOk rfl ?_)
  refine T_loop (ι := Nat × List ME × Nat) (fun j => [(5, bptr bb), (7, .slice A8 AL.length C8), (8, .map (some mb)), (44, .slice a5 DL.length c5), (45, .int .i64 (DL.length : Int)), (46, .int .i64 (j.1 : Int))])
    (fun j => [.rep (fun w => (LLx a5 DL.length c5 xs DL).at_ w Fv (.bool true)) Fv false, .blk mb (mapO .u64 j.2.1 j.2.2) true, .row W.heap.size (.slice A8 AL.length C8) 24 1 AL.length (u64s AL), .rep (fun w => (boA bb 1 1 (dueG 1 1 5 gs2) la2).at_ w F3 (.bool true)) F3 true])
    (fun j => j.1 ≤ DL.length ∧ Seen j.2.1 (DL.take j.1).flatten) (fun j => DL.length - j.1) (0, [], 0) ⟨Nat.zero_le _, Seen.nil⟩ (by repeat (first | exact Sub.nil | refine Sub.cons rfl ?_)) (fun w' hw => hw) ?_
  rintro ⟨i, N, c⟩ ⟨hi, hN⟩
  dsimp only at hi hN ⊢
  repeat (first | refine T_seq ?_ | refine T_region ?_ | refine S_nil ?_ | refine S_pure tabOk rfl ?_)
  refine T_cond_dec rfl (fun hlt1 => ?_) (fun hge => ?_)
  · have hin : i < DL.length := by omega
    obtain ⟨l', hl'⟩ : ∃ l', DL[i]? = some l' := ⟨_, List.getElem?_eq_getElem hin⟩
    obtain ⟨⟨xa, xn, xc⟩, hx⟩ : ∃ x, xs[i]? = some x := ⟨_, List.getElem?_eq_getElem (by omega)⟩
    have hlb := hDlb l' (List.mem_of_getElem? hl')
    have htk : DL.take (i + 1) = DL.take i ++ [l'] := by
      rw [List.take_succ_eq_append_getElem hin]
      rw [List.getElem?_eq_getElem hin] at hl'
      rw [Option.some.inj hl']
    have hfl : DL.flatten = (DL.take i).flatten ++ l' ++ (DL.drop (i + 1)).flatten := by
      conv => lhs; rw [← List.take_append_drop (i + 1) DL]
      rw [htk, List.flatten_append, List.flatten_append]
      simp
    refine T_kn (X := (∃ b off, a5 = some ⟨b, off, none⟩) ∧ l'.length = xn) (fun w1 g1 => ⟨LLx.addr (g1.own _ (getE_mem (i := 0) rfl)).1 (by omega), (LLx.get (g1.own _ (getE_mem (i := 0) rfl)).1 hx hl').len⟩) (fun ⟨⟨b5, o5, e5⟩, hxn⟩ => ?_)
    subst e5
    subst hxn
    repeat (first | refine T_seq ?_ | refine T_region ?_ | refine T_block ?_ | refine pthen_normal ?_ | refine T_skip ?_)
    refine S_q (Q_idx (sz := 1) tabOk rfl rfl rfl rfl rfl rfl rfl (j := i) rfl hin) ?_
    refine S_load1 tabOk (v := .slice xa l'.length xc) rfl rfl (fun w1 h1 => by rw [Nat.mul_one]; exact LLx.cell (h1.own _ (getE_mem (i := 0) rfl)).1 hx) ?_
    repeat (first | refine T_seq ?_ | refine T_region ?_ | refine T_block ?_ | refine S_nil ?_ | refine S_pure tabOk rfl ?_)
    refine T_loop (ι := Nat × List ME × Nat) (fun j => [(5, bptr bb), (7, .slice A8 AL.length C8), (8, .map (some mb)), (44, .slice (some ⟨b5, o5, none⟩) DL.length c5), (45, .int .i64 (DL.length : Int)), (46, .int .i64 (i : Int)), (50, .slice xa l'.length xc), (51, .int .i64 (l'.length : Int)), (52, .int .i64 (j.1 : Int))])
      (fun j => [.rep (fun w => (LLx (some ⟨b5, o5, none⟩) DL.length c5 xs DL).at_ w Fv (.bool true)) Fv false, .blk mb (mapO .u64 j.2.1 j.2.2) true, .row W.heap.size (.slice A8 AL.length C8) 24 1 AL.length (u64s AL), .rep (fun w => (boA bb 1 1 (dueG 1 1 5 gs2) la2).at_ w F3 (.bool true)) F3 true])
      (fun j => j.1 ≤ l'.length ∧ Seen j.2.1 ((DL.take i).flatten ++ l'.take j.1)) (fun j => l'.length - j.1) (0, N, c) ⟨Nat.zero_le _, by rw [List.take_zero, List.append_nil]; exact hN⟩ (by repeat (first | exact Sub.nil | refine Sub.cons rfl ?_)) (fun w' hw => hw) ?_
    rintro ⟨j, N2, d2⟩ ⟨hj, hN2⟩
    dsimp only at hj hN2 ⊢
    repeat (first | refine T_seq ?_ | refine T_region ?_ | refine S_nil ?_ | refine S_pure tabOk rfl ?_)
    refine T_cond_dec rfl (fun hlt2 => ?_) (fun hge2 => ?_)
    · have hjn : j < l'.length := by omega
      obtain ⟨k0, hk0⟩ : ∃ k0, l'[j]? = some k0 := ⟨_, List.getElem?_eq_getElem hjn⟩
      have htk2 : l'.take (j + 1) = l'.take j ++ [k0] := by
        rw [List.take_succ_eq_append_getElem hjn]
        rw [List.getElem?_eq_getElem hjn] at hk0
        rw [Option.some.inj hk0]
      have hkn : k0 ∉ (DL.take i).flatten ++ l'.take j := fun h => by
        have e1 : DL.flatten = ((DL.take i).flatten ++ l'.take j ++ [k0]) ++ (l'.drop (j + 1) ++ (DL.drop (i + 1)).flatten) := by
          rw [hfl]
          conv => lhs; rw [← List.take_append_drop (j + 1) l', htk2]
          simp only [List.append_assoc]
        have h1 := hDn
        rw [e1] at h1
        exact (List.nodup_append.1 (List.nodup_append.1 h1).1).2.2 k0 h k0 (List.mem_singleton.2 rfl) rfl
      refine T_kn (X := ∃ b off, xa = some ⟨b, off, none⟩) (fun w1 g1 => by
        obtain ⟨b, off, _, e, _⟩ := (LLx.get (g1.own _ (getE_mem (i := 0) rfl)).1 hx hl').get_ hjn
        exact ⟨b, off, e⟩) (fun ⟨b6, o6, e6⟩ => ?_)
      subst e6
      repeat (first | refine T_seq ?_ | refine T_region ?_ | refine T_block ?_ | refine pthen_normal ?_ | refine T_skip ?_)
      refine S_q (Q_idx (sz := 1) tabOk rfl rfl rfl rfl rfl rfl rfl (j := j) rfl hjn) ?_
      refine S_load1 tabOk (v := .int .u64 k0) rfl rfl (fun w1 g1 => (LLx.get (g1.own _ (getE_mem (i := 0) rfl)).1 hx hl').ints.sl.at_ (Nat.lt_of_le_of_lt (Nat.zero_le j) hjn) (by rw [Nat.mul_one, List.getElem?_map, hk0]; rfl)) ?_
      repeat (first | refine S_nil ?_ | refine S_pure tabOk rfl ?_ | refine T_region_any ?_)
      refine S_q (Q_lookN (v := .int .i64 0) tabOk rfl rfl rfl rfl rfl rfl rfl rfl (fun w' hw => hw.own _ (getE_mem (i := 1) rfl)) (by rw [hN2.get, if_neg hkn]) rfl) ?_
      repeat (first | refine S_i64 tabOk rfl (by omega) ?_)
      refine S_mapupd tabOk 1 rfl rfl rfl rfl rfl rfl rfl rfl rfl rfl ?_
      repeat (first | refine T_region ?_ | refine S_nil ?_ | refine pthen_normal ?_ | refine inb_normal ?_ | refine S_i64 tabOk rfl (by omega) ?_ | refine S_pure tabOk rfl ?_)
      exact ⟨(j + 1, (mPut N2 k0 (.int .i64 1) d2).1, (mPut N2 k0 (.int .i64 1) d2).2), ⟨hjn, by dsimp only; rw [htk2, ← List.append_assoc]; exact hN2.put hkn⟩, (by repeat (first | exact Sub.nil | refine Sub.cons rfl ?_)), fun w' hw => hw, by dsimp only; omega⟩
    · have hje : j = l'.length := by omega
      subst hje
      rw [List.take_length] at hN2
      repeat (first | refine T_region ?_ | refine S_nil ?_ | refine pthen_normal ?_ | refine inb_normal ?_ | refine inb_hit ?_ | refine pthen_exit ?_ | refine T_exit ?_ | refine S_i64 tabOk rfl (by omega) ?_ | refine S_pure tabOk rfl ?_)
      exact ⟨(i + 1, N2, d2), ⟨hin, by dsimp only; rw [htk, List.flatten_append]; simpa using hN2⟩, (by repeat (first | exact Sub.nil | refine Sub.cons rfl ?_)), fun w' hw => hw, by dsimp only; omega⟩
  have hie : i = DL.length := by omega
  subst hie
  rw [List.take_length] at hN
  repeat (first | refine T_seq ?_ | refine T_region ?_ | refine T_block ?_ | refine S_nil ?_ | refine pthen_normal ?_ | refine inb_hit ?_ | refine pthen_exit ?_ | refine T_exit ?_ | refine S_pure tabOk rfl ?_)
  obtain ⟨gs3, hgs3⟩ : ∃ g, g = dueG 1 1 5 gs2 := ⟨_, rfl⟩
  have hn3 : bNums gs3 = bNums gs2 := by rw [hgs3, dueG_nums]
  have ht3 : ∀ g ∈ gs3, g.tries = 2 := fun g hg => by
    rw [hgs3] at hg
    obtain ⟨z, hz, rfl⟩ := List.mem_map.1 hg
    have := r6 z hz
    rw [if_pos (by omega)]
    dsimp only
    omega
  have hl3 : gs3.length ≤ 2 := by rw [hgs3, dueG, List.length_map]; omega
  rw [← hgs3]
  refine T_loop (ι := Nat) (fun j => [(5, bptr bb), (7, .slice A8 AL.length C8), (8, .map (some mb)), (62, .slice A8 AL.length C8), (63, .int .i64 (AL.length : Int)), (64, .int .i64 (j : Int))])
    (fun j => [.blk mb (mapO .u64 N c) true, .row W.heap.size (.slice A8 AL.length C8) 24 1 AL.length (u64s AL), .rep (fun w => (boA bb 1 1 gs3 la2).at_ w F3 (.bool true)) F3 true])
    (fun j => j ≤ AL.length) (fun j => AL.length - j) 0 (Nat.zero_le _) (by repeat (first | exact Sub.nil | refine Sub.cons rfl ?_)) (fun w' hw => hw.less (by repeat (first | exact Less.nil | refine Less.keep ?_ | refine Less.dropR ?_))) ?_
  intro i hi
  repeat (first | refine T_seq ?_ | refine T_region ?_ | refine S_nil ?_ | refine S_pure tabOk rfl ?_)
  refine T_cond_dec rfl (fun hlt1 => ?_) (fun hge => ?_)
  · have hin : i < AL.length := by omega
    obtain ⟨k0, hk0⟩ : ∃ k0, AL[i]? = some k0 := ⟨_, List.getElem?_eq_getElem hin⟩
    have hkA := List.mem_of_getElem? hk0
    have hk2 := (hALm k0).1 hkA
    have hbt : bTries gs3 k0 = 2 := by
      unfold bTries
      cases hb : bGet gs3 k0 with
      | none => exact absurd (hn3 ▸ hk2) (bGet_none.1 hb)
      | some g => exact ht3 g (bGet_some hb).1
    repeat (first | refine T_seq ?_ | refine T_region ?_ | refine T_block ?_ | refine pthen_normal ?_ | refine T_skip ?_)
    refine S_rowA 1 rfl (by omega) (fun gN hgN => ?_)
    subst hgN
    refine S_q (Q_idx1 tabOk rfl rfl rfl rfl rfl rfl rfl (j := i) rfl hin) ?_
    refine S_load1 tabOk (v := .int .u64 k0) rfl rfl (fun w' hw => own_cell (hw.own _ (getE_mem (i := 1) rfl)) (by omega) (by rw [Nat.zero_add, List.getElem?_map, hk0]; rfl)) ?_
    repeat (first | refine T_seq ?_ | refine T_region ?_ | refine S_nil ?_ | refine S_pure tabOk rfl ?_)
    refine S_q (Q_look (v := .int .i64 1) tabOk rfl rfl rfl rfl rfl rfl rfl rfl (fun w' hw => hw.own _ (getE_mem (i := 0) rfl)) (by rw [hN.get, if_pos ((hDm k0).2 hk2)])) ?_
    repeat (first | refine S_pure tabOk rfl ?_)
    refine S_callq (v := .int .i64 2) rfl Try.call26 (fun w1 g1 => by rw [← hbt]; exact bo_tries (g1.own _ (getE_mem (i := 2) rfl)).1 k0) ?_
    repeat (first | refine S_nil ?_ | refine S_pure tabOk rfl ?_)
    refine T_cond_f rfl ?_
    repeat (first | refine T_region ?_ | refine S_nil ?_ | refine pthen_normal ?_ | refine inb_normal ?_ | refine T_skip ?_ | refine S_i64 tabOk rfl (by omega) ?_ | refine S_pure tabOk rfl ?_)
    exact ⟨i + 1, hin, (by repeat (first | exact Sub.nil | refine Sub.cons rfl ?_)), fun w' hw => hw, by omega⟩
  have hie : i = AL.length := by omega
  subst hie
  have hNl : N.length = (bNums gs3).length := by
    rw [hN.len, hn3]
    exact (nodup_sub_perm hDn hok2.nd (fun x hx => (hDm x).1 hx) fun x hx => (hDm x).2 hx).length_eq
  repeat (first | refine T_seq ?_ | refine T_region ?_ | refine pthen_normal ?_ | refine inb_hit ?_ | refine pthen_exit ?_ | refine T_exit ?_ | refine S_pure tabOk rfl ?_)
  refine S_callq rfl Try.call36 (fun w1 g1 => bo_count (g1.own _ (getE_mem (i := 2) rfl)).1) ?_
  repeat (first | refine S_pure tabOk rfl ?_)
  refine S_q (Q_maplen tabOk rfl rfl rfl rfl (fun w' hw => hw.own _ (getE_mem (i := 0) rfl))) ?_
  repeat (first | refine S_pure tabOk rfl ?_)
  refine S_re 84 (v' := .bool true) rfl (congrArg Value.bool (decide_eq_true (by rw [hNl]))) ?_
  repeat (first | refine S_pure tabOk rfl ?_)
  refine S_callR (setP (· ∈ bNums gs3) (bNums gs3).length) (fun _ => False) rfl Try.call15 (fun w1 g1 => (bo_flight (g1.own _ (getE_mem (i := 2) rfl)).1).mono fun e w' ⟨r, e1, e2, e3⟩ => ⟨r, e1, e2, nbb g1 e3⟩) (fun v9 F9 w9 hF9 hv9 => ?_)
  obtain ⟨a9, n9, c9, rfl⟩ := setP_val hv9
  repeat (first | refine S_pure tabOk rfl ?_)
  refine S_of (L := AL) rfl (fun w1 g1 => ⟨_, row_slr (g1.own _ (getE_mem (i := 2) rfl)) rfl hALf⟩) (by omega) (fun aq nq cq Fq hFq => ?_)
  refine S_callq (v := .bool true) rfl Try.call20 (fun w1 g1 => same_t w1 (g1.own _ (getE_mem (i := 1) rfl)).1 (g1.own _ (getE_mem (i := 0) rfl)).1 fun x => by rw [hn3, hALm]) ?_
  repeat (first | refine S_pure tabOk rfl ?_)
  refine S_bsend 4 (L := AL) rfl rfl hN3 (fun w1 g1 => Arg.row 3 4 g1 rfl rfl rfl rfl hALf) (by decide) (by rw [hn3]; omega) (by omega) (by omega) (fun F5 hN5 => ⟨_, rfl, ?_⟩)
  rw [bSend_old fun n hn => by rw [hn3]; exact (hALm n).1 hn]
  dsimp only
  repeat (first | refine S_nil ?_ | refine T_ret ?_ | refine S_pure tabOk rfl ?_)
  exact ret1 rfl rfl (fun w' hw => ⟨rfl, hw.below (by repeat (first | exact new_nil | refine new_ro ?_ | refine new_rx (by assumption) ?_ | refine new_cons (by first | assumption | omega) ?_ | refine newrow hw 3 rfl (Nat.le_refl _) ?_))⟩)
end Go.Proofs.Ytanhmmfpecgbhaa
