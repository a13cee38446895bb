/-
  A board's Send. Conditions: each theorem's own.
-/
import Derived.Test.YtanhmmfpecgbhaaBoG
namespace Go.Proofs.Ytanhmmfpecgbhaa
open Go Go.RowKit
set_option linter.unusedVariables false

section
variable {bb : Nat} {f m last : Int} {gs : List BG} {w w0 : World} {F : Nat → Prop} {ol : OL}
set_option maxHeartbeats 8000000 in
theorem bo_send (h : (boA bb f m gs last).at_ w F (.bool true)) (hF : ∀ k, F k → k < w.heap.size) {a : Option Addr} {n c : Nat} {l : List Int} {A0 : Nat → Prop} (hl : SlR (Rint .u64) w A0 a n c l) (hAF : ∀ k, A0 k → ¬ F k) {now : Int} (hnow : 0 ≤ now ∧ now ≤ 1152921504606846976) (hln : l.length + (bNums gs).length ≤ 60000) (hcn : gs.length < 60000) (hla : last + 1 ≤ 1099511627776) :
    Calls Try.prog 13 #[bptr bb, .int .i64 now, .slice a n c] w fun e w' => e = .returned (.int .u64 (bSend f m gs last now l).2.2) ∧ Turns w F (boA bb f m (bSend f m gs last now l).1 (bSend f m gs last now l).2.1) w' := by
  obtain ⟨x, hp, hok, hr, hst, hcov, hne⟩ := bo_open h true false
  obtain rfl := hl.len
  obtain ⟨Fq, hFq, hq2, hst2⟩ := hst.addV (p := (Rslice (Rint .u64)).vp l) (A := A0) (v := .slice a l.length c) (((Rslice (Rint .u64)).vp l).mono hl.val fun k hk => ⟨.inl hk, fun e he hx hh => hAF k hk (bo_far hcov e he hx k hh)⟩)
  obtain ⟨gb, mb, ab, c1, c2, M1, M2, Bk, X, Fa, Fg, Fs⟩ := x
  dsimp only at hr hst2
  have hFb : F bb := hcov _ (getE_mem (i := 0) rfl) bb rfl
  have hFgb : F gb := hcov _ (getE_mem (i := 1) rfl) gb rfl
  have hFmb : F mb := hcov _ (getE_mem (i := 2) rfl) mb rfl
  have hFa : ∀ k, Fa k → F k := hcov _ (getE_mem (i := 3) rfl)
  have hFg : ∀ k, Fg k → F k := hcov _ (getE_mem (i := 4) rfl)
  have hFs : ∀ k, Fs k → F k := hcov _ (getE_mem (i := 5) rfl)
  have hI : Ints .u64 w a l.length c l := hl.ints
  have hfit := hI.fits
  have hlst := hok.lst
  clear hst hcov
  obtain ⟨s, hs⟩ : ∃ s : Int → Bool, s = fun n => decide (n ∉ bNums gs) := ⟨_, rfl⟩
  refine enter3 Try.func13 rfl rfl (hst2.pm [1, 2, 3, 4, 5, 6, 0] rfl rfl rfl) ?_
  repeat (first | refine T_seq ?_ | refine T_region ?_ | refine S_nil ?_ | refine S_pure tabOk rfl ?_)
  refine S_q (Q_eqptr tabOk rfl rfl rfl rfl rfl) ?_
  repeat (first | refine S_nil ?_)
  refine T_cond_f rfl ?_
  repeat (first | refine T_seq ?_ | refine T_region ?_ | refine S_nil ?_ | refine pthen_normal ?_ | refine T_skip ?_ | refine S_pure tabOk rfl ?_)
  refine T_cut (ι := Option Addr × Nat) (fun _ => True) (fun j => [(0, bptr bb), (1, .int .i64 now), (7, .slice j.1 (l.filter s).length j.2)]) (fun j => boL bb f m gs last ⟨gb, mb, ab, c1, c2, M1, M2, Bk, X, Fa, Fg, Fs⟩ true false ++ [.row w.heap.size (.slice j.1 (l.filter s).length j.2) 24 1 (l.filter s).length (u64s (l.filter s))]) ?_ ?_
  · refine T_block ?_
    refine T_loop (ι := Nat × Option Addr × Nat) (fun j => [(0, bptr bb), (1, .int .i64 now), (14, .slice a l.length c), (15, .int .i64 (l.length : Int)), (16, .int .i64 (j.1 : Int)), (7, .slice j.2.1 ((l.take j.1).filter s).length j.2.2)])
      (fun j => boL bb f m gs last ⟨gb, mb, ab, c1, c2, M1, M2, Bk, X, Fa, Fg, Fs⟩ true false ++ [.row w.heap.size (.slice j.2.1 ((l.take j.1).filter s).length j.2.2) 24 1 ((l.take j.1).filter s).length (u64s ((l.take j.1).filter s)), .rep (fun w => ((Rslice (Rint .u64)).vp l).at_ w Fq (.slice a l.length c)) Fq false])
      (fun j => j.1 ≤ l.length) (fun j => l.length - j.1) (0, none, 0) (Nat.zero_le _) (by repeat (first | exact Sub.nil | refine Sub.cons rfl ?_)) (fun w' hw => ?_) ?_
    · have h9 := (hw.nilRow 24 1).pm [1, 2, 3, 4, 5, 6, 0, 7] rfl rfl rfl
      exact h9
    rintro ⟨i, A, C⟩ hi
    dsimp only at hi ⊢
    repeat (first | refine T_seq ?_ | refine T_region ?_ | refine S_nil ?_ | refine S_pure tabOk rfl ?_)
    refine T_cond_dec rfl (fun hlt1 => ?_) (fun hge => ?_)
    rotate_left
    · have hie : i = l.length := by omega
      subst hie
      rw [List.take_length]
      repeat (first | refine pthen_normal ?_ | refine inb_hit ?_ | refine pthen_exit ?_ | refine T_exit ?_)
      exact ⟨(A, C), trivial, (by repeat (first | exact Sub.nil | refine Sub.cons rfl ?_)), fun w' hw => hw.less (by repeat (first | exact Less.nil | refine Less.keep ?_ | refine Less.dropR ?_))⟩
    have hin : i < l.length := by omega
    obtain ⟨n, hn⟩ : ∃ n, l[i]? = some n := ⟨_, List.getElem?_eq_getElem hin⟩
    have htk : l.take (i + 1) = l.take i ++ [n] := by
      rw [List.take_succ_eq_append_getElem hin]
      rw [List.getElem?_eq_getElem hin] at hn
      rw [Option.some.inj hn]
    have hfl : ((l.take i).filter s).length ≤ 60000 := by
      have h1 := List.length_filter_le s (l.take i)
      rw [List.length_take] at h1
      omega
    obtain ⟨ab2, off, cs0, ha, _⟩ := hl.get_ hin
    subst ha
    repeat (first | refine T_seq ?_ | refine T_region ?_ | refine T_block ?_ | refine pthen_normal ?_ | refine T_skip ?_)
    refine S_q (Q_idx (sz := 1) tabOk rfl rfl rfl rfl rfl rfl rfl (j := i) rfl hin) ?_
    refine S_load1 tabOk (v := .int .u64 n) rfl rfl (fun w' hw => (SlR.of_val (hw.own _ (getE_mem (i := 7) rfl)).1).ints.sl.at_ (by omega) (by rw [Nat.mul_one, List.getElem?_map, hn]; rfl)) ?_
    repeat (first | refine T_seq ?_ | refine T_region ?_ | refine S_nil ?_ | refine S_pure tabOk rfl ?_)
    refine S_callq rfl Try.call27 (fun w1 h1 => bo_has (bo_of h1 hp hok hne hr) n) ?_
    cases hs1 : s n with
    | false =>
      refine S_re 22 (v' := .bool true) rfl (congrArg Value.bool (decide_eq_true (by rw [hs] at hs1; simpa using hs1))) ?_
      repeat (first | refine S_nil ?_ | refine S_pure tabOk rfl ?_)
      refine T_cond_f rfl ?_
      repeat (first | refine T_region ?_ | refine S_nil ?_ | refine pthen_normal ?_ | refine inb_normal ?_ | refine T_skip ?_ | refine S_i64 tabOk rfl (by omega) ?_ | refine S_pure tabOk rfl ?_)
      exact ⟨(i + 1, A, C), hin, (by
        dsimp only
        rw [htk, List.filter_append, List.filter_cons_of_neg (by simp [hs1]), List.filter_nil, List.append_nil]
        repeat (first | exact Sub.nil | refine Sub.cons rfl ?_)), fun w' hw => (by
        dsimp only
        rw [htk, List.filter_append, List.filter_cons_of_neg (by simp [hs1]), List.filter_nil, List.append_nil]
        exact hw), by dsimp only; omega⟩
    | true =>
      refine S_re 22 (v' := .bool false) rfl (congrArg Value.bool (decide_eq_false (by rw [hs] at hs1; simpa using hs1))) ?_
      repeat (first | refine S_nil ?_ | refine S_pure tabOk rfl ?_)
      refine T_cond_t rfl ?_
      have e5 : (l.take (i + 1)).filter s = (l.take i).filter s ++ [n] := by rw [htk, List.filter_append, List.filter_cons_of_pos hs1, List.filter_nil]
      repeat (first | refine S_pure tabOk rfl ?_ | refine T_region_any ?_)
      refine S_bslice tabOk rfl rfl rfl rfl rfl rfl rfl rfl rfl rfl rfl rfl (fun nb hnb2 => ?_)
      refine S_append (ty := 0) (k := 1) (news := [.int .u64 n]) tabOk 7 (sz := 1) rfl rfl rfl rfl rfl rfl rfl rfl rfl (by decide) (fun w' hw => Sl.of_blk (hw.own _ (getE_mem (i := 0) rfl)) rfl (fun j u hu => by rw [Nat.zero_add]; exact hu)) (fun u hu => by rw [List.mem_singleton] at hu; subst hu; rfl) (by simp only [maxLen]; omega) (by show (_ + _) * 8 ≤ _; omega) rfl (fun A' C' hA' hC' => ⟨_, rfl, ?_⟩)
      refine S_heap (fun w' hw => hw.dropn hnb2) ?_
      repeat (first | refine T_region ?_ | refine S_nil ?_ | refine pthen_normal ?_ | refine inb_normal ?_ | refine S_i64 tabOk rfl (by omega) ?_ | refine S_pure tabOk rfl ?_)
      exact ⟨(i + 1, A', C'), hin, (by
        dsimp only
        rw [e5, List.length_append, List.length_singleton]
        repeat (first | exact Sub.nil | refine Sub.cons rfl ?_)), fun w' hw => (by
        dsimp only
        rw [e5, List.length_append, List.length_singleton, u64s, List.map_append]
        exact hw), by dsimp only; omega⟩
  rintro ⟨A, C⟩ _
  dsimp only
  obtain ⟨sm, hsm⟩ : ∃ sm, sm = l.filter s := ⟨_, rfl⟩
  rw [← hsm]
  have hsml : sm.length ≤ 60000 := by
    have h1 := List.length_filter_le s l
    rw [hsm]
    omega
  have hnew : newL gs l = sortU sm := by rw [hsm, hs]; rfl
  have hnm : ∀ k, k ∈ newL gs l ↔ k ∈ sm := fun k => by rw [hnew, sortU_mem]
  have hsmf : ∀ k ∈ sm, Fits .u64 k := fun k hk => hfit k (List.mem_filter.1 (hsm ▸ hk)).1
  repeat (first | refine T_seq ?_ | refine T_region ?_ | refine S_nil ?_ | refine S_pure tabOk rfl ?_)
  refine T_cond_dec rfl (fun h0 => ?_) (fun h0 => ?_)
  · have e0 : sm = [] := List.eq_nil_of_length_eq_zero (by omega)
    have e1 : newL gs l = [] := by rw [hnew, e0]; rfl
    have e2 : bSend f m gs last now l = (gs, last, 0) := if_pos e1
    rw [e2]
    repeat (first | refine T_seq ?_ | refine T_region ?_ | refine S_nil ?_ | refine pthen_ret ?_ | refine T_ret ?_ | refine S_pure tabOk rfl ?_)
    exact ret1 rfl rfl (fun w' hw => ⟨rfl, bo_close (F0 := F) (ol := []) (hw.less (by repeat (first | exact Less.nil | refine Less.keep ?_ | refine Less.dropW (Nat.le_refl _) ?_))) hp hok hne hr hF (fun e he => by cases he) (bo_cov (.inl hFb) (.inl hFgb) (.inl hFmb) (fun k hk => .inl (hFa k hk)) (fun k hk => .inl (hFg k hk)) (fun k hk => .inl (hFs k hk)))⟩)
  have hne0 : newL gs l ≠ [] := fun e => h0 (by
    have : sm = [] := sortU_nil.1 (hnew ▸ e)
    rw [this]; rfl)
  have e2 : bSend f m gs last now l = (gs ++ [⟨last + 1, newL gs l, now + W f m 0, 1⟩], last + 1, last + 1) := if_neg hne0
  rw [e2]
  obtain ⟨g, hg⟩ : ∃ g : BG, g = ⟨last + 1, newL gs l, now + W f m 0, 1⟩ := ⟨_, rfl⟩
  rw [← hg]
  dsimp only
  have hgid : g.id = last + 1 := by rw [hg]
  have hgL : g.L = newL gs l := by rw [hg]
  have hgt : g.tries = 1 := by rw [hg]
  have hgtm : g.tm = now + W f m 0 := by rw [hg]
  have hW := W_pos hp.1 hp.2.1 0
  have hp3 := hp.2.2
  have hnl : (newL gs l).length ≤ sm.length := by rw [hnew]; exact sortU_len
  have hok' : BOk (last + 1) (gs ++ [g]) := hok.push hgid (by rw [hgL]; exact sortU_srt _) (fun k hk => by rw [hgL, newL_mem] at hk; exact hk.2) (fun k hk => by rw [hgL, hnm] at hk; exact hsmf k hk) hgt (by rw [hgtm]; omega) (by
    have h1 := List.length_filter_le s l
    rw [← hsm] at h1
    rw [hgL]
    omega) hla hcn
  have hne' : BNe (gs ++ [g]) := fun y hy => by
    rcases List.mem_append.1 hy with hy | hy
    · exact hne y hy
    · rw [List.mem_singleton] at hy
      subst hy
      rw [hgL]; exact hne0
  repeat (first | refine T_seq ?_ | refine T_region ?_ | refine S_nil ?_ | refine pthen_normal ?_ | refine T_skip ?_ | refine S_u64 tabOk rfl (by omega) ?_ | refine S_pure tabOk rfl ?_ | refine S_load tabOk 0 rfl rfl rfl ?_ | refine S_store tabOk 0 rfl rfl rfl rfl rfl rfl ?_)
  refine T_drawT (by kernel_rfl) 12 rfl (by kernel_rfl) ?_
  repeat (first | refine D_pure tabOk rfl ?_ | refine D_load tabOk 0 rfl rfl rfl ?_)
  refine D_callR (setP (· ∈ g.L) g.L.length) (fun _ => False) rfl Try.call21 (fun w' vs hw' h => by
    obtain ⟨u1, _, rfl, rfl, rfl⟩ := h
    refine (of_p (A := TT) A sm.length C sm w' (SlR.of_row (R := Rint .u64) (flat_int .u64) (by rw [flat_ints]; exact hw'.own _ (getE_mem (i := 6) rfl)) rfl hsmf fun k _ _ => trivial) (by omega)).mono fun e w'' ⟨r, e1, e2, e3⟩ => ⟨r, e1, e2, nbb hw' (setP_tight e3 (by rw [hgL]; exact sortU_srt _) fun k => by rw [hgL, hnm])⟩) ?_
  refine D_grP 48 rfl rfl rfl rfl rfl (fun ac x1 w1 hrd => (Q_build (n := 100) (d := 49) (w0 := w1) (ol := []) (all := #[]) tabOk rfl rfl rfl rfl rfl rfl rfl).run ac w1 hrd (Hp.refl w1)) ?_
  refine D_grB 49 rfl rfl rfl rfl rfl (fun ac x1 w1 hrd => (newAt_run (n := 100) (d := 50) (all := #[]) tabOk rfl).2.2.2 ac w1 hrd) ?_
  refine D_fin fun w1 hh fv hfv => ?_
  obtain ⟨b, x2, F2, eb, hb, hF2, hh2⟩ := GrB.hp (hfv 50 _ rfl) hh
  refine ⟨_, _, rfl, hh2, ?_⟩
  dsimp only
  rw [eb]
  refine S_mapupd tabOk 3 rfl rfl rfl rfl rfl rfl rfl rfl rfl rfl ?_
  refine S_kn (p := ∀ y ∈ gs, Bk y.id ≠ b) (fun w' hw y hy e => (List.pairwise_cons.1 (List.pairwise_cons.1 hw.apart).2).1 _ (getE_mem (i := 4) rfl) rfl b rfl (e ▸ ((hw.own _ (getE_mem (i := 6) rfl)).1 y hy).2)) (fun hBb => ?_)
  obtain ⟨M1', hM1'⟩ : ∃ M1', M1' = (mPut M1 g.id (bptr b) c1).1 := ⟨_, rfl⟩
  obtain ⟨c1', hc1'⟩ : ∃ c1', c1' = (mPut M1 g.id (bptr b) c1).2 := ⟨_, rfl⟩
  obtain ⟨B', hB'⟩ : ∃ B' : Int → Nat, B' = fun i => if i = g.id then b else Bk i := ⟨_, rfl⟩
  obtain ⟨X', hX'⟩ : ∃ X', X' = updX X g.id x2 := ⟨_, rfl⟩
  refine S_heap (ol' := [.blk bb (boC f m gb mb ab (last + 1)) true, .blk gb (mapO .u64 M1' c1') true, .blk mb (mapO .u64 M2 c2) true, .rep (fun w => (alA ab (bAl gs)).at_ w Fa (.bool true)) Fa true, .rep (fun w => (gbV (gs ++ [g]) B' X').at_ w (fun k => Fg k ∨ k = b) (.bool true)) (fun k => Fg k ∨ k = b) true, .rep (fun w => (seV (gs ++ [g]) X').at_ w (fun k => F2 k ∨ Fs k) (.bool true)) (fun k => F2 k ∨ Fs k) false, uRow w.heap.size (.slice A sm.length C) sm]) (fun w' hw => ?_) ?_
  · rw [hB', hX', hM1', hc1', hgid]
    have h9 := (bo_grow (ol := _) hok hgid hgt (hw.pm [0, 7, 1, 6, 2, 3, 4, 5] rfl rfl rfl)).pm [2, 3, 4, 5, 0, 1] rfl rfl rfl
    rw [hgid] at h9
    exact h9
  repeat (first | refine T_seq ?_ | refine T_region ?_ | refine T_block ?_ | refine S_nil ?_ | refine S_pure tabOk rfl ?_)
  refine T_loop (ι := Nat × List ME × Nat) (fun j => [(0, bptr bb), (1, .int .i64 now), (51, .slice A sm.length C), (52, .int .i64 (sm.length : Int)), (53, .int .i64 (j.1 : Int))])
    (fun j => [.blk bb (boC f m gb mb ab (last + 1)) true, .blk gb (mapO .u64 M1' c1') true, .blk mb (mapO .u64 j.2.1 j.2.2) true, .rep (fun w => (alA ab (bAl gs)).at_ w Fa (.bool true)) Fa true, .rep (fun w => (gbV (gs ++ [g]) B' X').at_ w (fun k => Fg k ∨ k = b) (.bool true)) (fun k => Fg k ∨ k = b) true, .rep (fun w => (seV (gs ++ [g]) X').at_ w (fun k => F2 k ∨ Fs k) (.bool true)) (fun k => F2 k ∨ Fs k) false, uRow w.heap.size (.slice A sm.length C) sm])
    (fun j => j.1 ≤ sm.length ∧ MOk j.2.1 j.2.2 ∧ ∀ k, mGet j.2.1 k = if k ∈ sm.take j.1 then some (.int .u64 (last + 1)) else (bGet gs k).map fun g => Value.int .u64 g.id) (fun j => sm.length - j.1) (0, M2, c2) ⟨Nat.zero_le _, hr.m2, fun k => by rw [hr.g2]; simp⟩ (by repeat (first | exact Sub.nil | refine Sub.cons rfl ?_)) (fun w' hw => hw) ?_
  rintro ⟨i, N2, d2⟩ ⟨hi, hN, hNg⟩
  dsimp only at hi hN hNg ⊢
  repeat (first | refine T_seq ?_ | refine T_region ?_ | refine S_nil ?_ | refine S_pure tabOk rfl ?_)
  refine T_cond_dec rfl (fun hlt1 => ?_) (fun hge => ?_)
  · have hin : i < sm.length := by omega
    obtain ⟨k0, hk0⟩ : ∃ k0, sm[i]? = some k0 := ⟨_, List.getElem?_eq_getElem hin⟩
    have htk : sm.take (i + 1) = sm.take i ++ [k0] := by
      rw [List.take_succ_eq_append_getElem hin]
      rw [List.getElem?_eq_getElem hin] at hk0
      rw [Option.some.inj hk0]
    repeat (first | refine T_seq ?_ | refine T_region ?_ | refine T_block ?_ | refine pthen_normal ?_ | refine T_skip ?_)
    refine S_rowA 6 rfl (by omega) (fun gN hgN => ?_)
    subst hgN
    refine S_q (Q_idx1 tabOk rfl rfl rfl rfl rfl rfl rfl (j := i) rfl hin) ?_
    refine S_load1 tabOk (v := .int .u64 k0) rfl rfl (fun w' hw => own_cell (hw.own _ (getE_mem (i := 6) rfl)) (by omega) (by rw [Nat.zero_add, List.getElem?_map, hk0]; rfl)) ?_
    repeat (first | refine S_nil ?_ | refine S_pure tabOk rfl ?_)
    refine T_asThen ?_
    refine T_drawT (by kernel_rfl) 9 rfl (by kernel_rfl) ?_
    repeat (first | refine D_all rfl ?_ | refine D_pure tabOk rfl ?_ | refine D_load tabOk 0 rfl rfl rfl ?_)
    refine S_mapupd tabOk 2 rfl rfl rfl rfl rfl rfl rfl rfl rfl rfl ?_
    repeat (first | refine T_region ?_ | refine S_nil ?_ | refine pthen_normal ?_ | refine inb_normal ?_ | refine S_i64 tabOk rfl (by omega) ?_ | refine S_pure tabOk rfl ?_)
    exact ⟨(i + 1, (mPut N2 k0 (.int .u64 (last + 1)) d2).1, (mPut N2 k0 (.int .u64 (last + 1)) d2).2), ⟨hin, hN.put _ _, fun k => by
      dsimp only
      rw [mGet_put, hNg, htk]
      by_cases e : k = k0
      · rw [if_pos e, if_pos (by rw [e]; simp)]
      · rw [if_neg e]
        by_cases e2 : k ∈ sm.take i
        · rw [if_pos e2, if_pos (List.mem_append.2 (.inl e2))]
        · rw [if_neg e2, if_neg (fun h => (List.mem_append.1 h).elim e2 fun h => e (List.mem_singleton.1 h))]⟩, (by repeat (first | exact Sub.nil | refine Sub.cons rfl ?_)), fun w' hw => hw, by dsimp only; omega⟩
  have hie : i = sm.length := by omega
  subst hie
  rw [List.take_length] at hNg
  have hr' : BRel (gs ++ [g]) M1' N2 c1' d2 B' := by
    rw [hM1', hc1', hB']
    exact hr.push hok hok' hgid hBb hN fun k => by
      rw [hNg, hgid, hgL]
      by_cases e : k ∈ sm
      · rw [if_pos e, if_pos ((hnm k).2 e)]
      · rw [if_neg e, if_neg fun h => e ((hnm k).1 h)]
  repeat (first | refine T_seq ?_ | refine pthen_normal ?_ | refine inb_hit ?_ | refine pthen_exit ?_ | refine T_exit ?_)
  refine T_drawT (by kernel_rfl) 15 rfl (by kernel_rfl) ?_
  repeat (first | refine D_pure tabOk rfl ?_ | refine D_load tabOk 0 rfl rfl rfl ?_)
  refine D_callx (v := .int .i64 (W f m 0)) rfl Try.call25 (fun w' vs hw' h => by
    obtain ⟨u1, _, rfl, rfl, u2, _, rfl, rfl, rfl⟩ := h
    exact wait_w f m 0 w' hp.1 hp.2.2 hp.2.1) ?_
  repeat (first | refine D_all rfl ?_ | refine D_i64 tabOk rfl (by omega) ?_)
  have hal := bAl_len gs
  refine S_callT 3 rfl Try.call51 rfl (fun w1 g1 => (al_set (g1.own _ (getE_mem (i := 3) rfl)).1 (g1.own _ (getE_mem (i := 3) rfl)).2.2 (by omega) (last + 1) (now + W f m 0)).mono fun e w' ⟨he, Fa', g2', g3, g4⟩ => ⟨_, _, Fa', he, g4, g2', g3, _, rfl, ?_⟩)
  have hsz := g1.size
  repeat (first | refine T_seq ?_ | refine T_region ?_ | refine S_nil ?_ | refine T_ret ?_ | refine S_pure tabOk rfl ?_ | refine S_load tabOk 0 rfl rfl rfl ?_)
  refine ret1 rfl rfl (fun w' hw => ⟨rfl, ?_⟩)
  have e9 : dSet (bAl gs) (last + 1) (now + W f m 0) = bAl (gs ++ [g]) := by
    have := bAl_push hok hok' hgid
    rw [hgid, hgtm] at this
    exact this
  rw [e9] at hw
  exact bo_close (F0 := F) (h := ⟨gb, mb, ab, c1', d2, M1', N2, B', X', Fa', fun k => Fg k ∨ k = b, fun k => F2 k ∨ Fs k⟩) (ol := []) (hw.less (by repeat (first | exact Less.nil | refine Less.keep ?_ | refine Less.dropW (Nat.le_refl _) ?_))) hp hok' hne' hr' hF (fun e he => by cases he) (bo_cov (.inl hFb) (.inl hFgb) (.inl hFmb) (fun k hk => (g3 k hk).elim (fun h => .inl (hFa k h)) fun h => .inr (Nat.le_trans hsz h)) (fun k hk => hk.elim (fun h => .inl (hFg k h)) fun h => .inr (h ▸ hb)) (fun k hk => hk.elim (fun h => .inr (hF2 k h)) fun h => .inl (hFs k h)))
end
end Go.Proofs.Ytanhmmfpecgbhaa
