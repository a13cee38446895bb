/-
  The document's board: Send. Conditions: each theorem's own.
-/
import Derived.Test.YtidhpofcofknhaaRbC
namespace Go.Proofs.Ytidhpofcofknhaa
open Go Go.RowKit
set_option linter.unusedVariables false

theorem newL_eq (gs : List BG) (l : List Int) : (sortU l).filter (fun n => decide (n ∉ bNums gs)) = newL gs l :=
  sortU_ext ((sortU_srt l).sublist List.filter_sublist) fun x => by
    rw [List.mem_filter, List.mem_filter, sortU_mem]
theorem newLL_len' {gs : List BG} {l : List Int} : (newL gs l).length ≤ l.length := Nat.le_trans sortU_len (List.length_filter_le _ _)
section
variable {xb : Nat} {f m last : Int} {gs : List BG} {w : World} {F : Nat → Prop}
set_option maxHeartbeats 4000000 in
theorem rb_send (h : (rbA xb f m gs last).at_ w F (.bool true)) (hF : ∀ k, F k → k < w.heap.size) {la : Option Addr} {ln lc : Nat} {l : List Int} {A : Nat → Prop} (hl : SlR (Rint .u64) w A la ln lc l) (hAF : ∀ k, A k → ¬ F k) {now : Int} (hnow : 0 ≤ now ∧ now ≤ 1152921504606846976) (hln : l.length + (bNums gs).length ≤ 60000) (hcn : gs.length < 60000) (hla : last + 1 ≤ 1099511627776) :
    Calls Try.prog 10 #[bptr xb, .int .i64 now, .slice la ln lc] w fun e w' => e = .returned (.int .u64 (bSend f m gs last now l).2.2) ∧ Turns w F (rbA xb f m (bSend f m gs last now l).1 (bSend f m gs last now l).2.1) w' := by
  obtain ⟨K, a, c, G, ⟨rfl, hp, hok, hne⟩, hst, hcov⟩ := rb_open h
  have hKl : K.length < 60000 := by rwa [List.length_map] at hcn
  have hFx : F xb := hcov _ (getE_mem (i := 0) rfl) xb rfl
  have hFr : ∀ k, (Value.slice a K.length c).ownBlock = some k → F k := hcov _ (getE_mem (i := 1) rfl)
  have hFG : ∀ k, G k → F k := hcov _ (getE_mem (i := 2) rfl)
  obtain ⟨Fl, hFl, _, hst2⟩ := hst.addV (p := (Rslice (Rint .u64)).vp l) (A := A) (v := .slice la ln lc) (((Rslice (Rint .u64)).vp l).mono hl.val fun k hk => ⟨.inl hk, fun e he hex hh => hAF k hk (hcov e he k hh)⟩)
  have hlst := hok.lst
  have hll := hl.len
  have hSl := @sortU_len l
  refine enter3 Try.func10 rfl rfl hst2 ?_
  repeat (first | refine T_seq ?_ | refine T_region ?_ | refine S_nil ?_ | refine S_pure tabOk rfl ?_)
  refine S_callrow rfl Try.call36 (fun w1 h1 => rsorted13_ok w1 (SlR.of_val (h1.own _ (getE_mem (i := 0) rfl)).1) (by omega)) (fun a1 c1 hc1 hd1 => ?_)
  obtain ⟨S, hS⟩ : ∃ S, S = sortU l := ⟨_, rfl⟩
  have hN := newL_eq (gsK K) l
  rw [← hS] at hSl hc1 hN ⊢
  have hSf : ∀ x ∈ S, Fits .u64 x := fun x hx => by
    rw [hS, sortU_mem] at hx
    exact (hl.flat (flat_int .u64)).2 x hx
  obtain ⟨flt, hflt⟩ : ∃ flt : Nat → List Int, flt = fun j => (S.take j).filter fun n => decide (n ∉ bNums (gsK K)) := ⟨_, rfl⟩
  have hf0 : flt 0 = [] := by rw [hflt]; rfl
  have hfl : flt S.length = newL (gsK K) l := by rw [hflt]; dsimp only; rw [List.take_length]; exact hN
  have hfs : ∀ j (hj : j < S.length), flt (j + 1) = flt j ++ if S[j] ∈ bNums (gsK K) then [] else [S[j]] := fun j hj => by
    rw [hflt]
    dsimp only
    rw [List.take_succ_eq_append_getElem hj, List.filter_append]
    congr 1
    by_cases h9 : S[j] ∈ bNums (gsK K)
    · rw [if_pos h9, List.filter_cons_of_neg (by rw [decide_eq_true_iff]; exact fun h => h h9)]; rfl
    · rw [if_neg h9, List.filter_cons_of_pos (by rw [decide_eq_true_iff]; exact h9)]; rfl
  have hfb : ∀ j, (flt j).length ≤ S.length := fun j => by
    rw [hflt]
    exact Nat.le_trans (List.length_filter_le _ _) (by rw [List.length_take]; omega)
  repeat (first | refine T_block ?_ | refine S_nil ?_ | refine S_pure tabOk rfl ?_)
  refine T_loop (ι := RSo) (fun i => [(0, bptr xb), (1, .int .i64 now), (11, .slice a1 S.length c1), (12, .int .i64 (S.length : Int)), (13, .int .i64 (i.j : Int)), (7, .slice i.a (flt i.j).length i.c)])
    (fun i => [.row w.heap.size (.slice i.a (flt i.j).length i.c) 34 1 (flt i.j).length (u64s (flt i.j)), .row w.heap.size (.slice a1 S.length c1) 34 1 S.length (u64s S), .blk xb (rbC f m a K.length c last) true, .row 0 (.slice a K.length c) 99 4 K.length (cellsG K), .rep (fun w => (okG K).at_ w G (.bool true)) G false])
    (fun i => i.j ≤ S.length) (fun i => S.length - i.j) ⟨0, none, 0⟩ (Nat.zero_le _) (by dsimp only; rw [hf0]; repeat (first | exact Sub.nil | refine Sub.cons rfl ?_)) (fun w' hw => by dsimp only; rw [hf0]; exact (hw.less (o' := [.row w.heap.size (.slice a1 S.length c1) 34 1 S.length (u64s S), .blk xb (rbC f m a K.length c last) true, .row 0 (.slice a K.length c) 99 4 K.length (cellsG K), .rep (fun w => (okG K).at_ w G (.bool true)) G false]) (by repeat (first | exact Less.nil | refine Less.keep ?_ | refine Less.dropR ?_))).nilRow _ _) ?_
  rintro ⟨j, a2, c2⟩ hj
  dsimp only at hj ⊢
  have hbj := hfb j
  repeat (first | refine T_seq ?_ | refine T_region ?_ | refine S_nil ?_ | refine S_pure tabOk rfl ?_)
  refine T_cond_dec rfl (fun hlt => ?_) (fun hge => ?_)
  · have hjl : j < S.length := by omega
    have hs1 := hfs j hjl
    have e1 := u64s_get hjl
    refine T_heap (fun w h => h) ?_
    repeat (first | refine T_seq ?_ | refine T_region ?_ | refine T_block ?_ | refine pthen_normal ?_ | refine T_skip ?_)
    refine S_rowA 1 rfl (by omega) (fun bS hbS => ?_)
    subst hbS
    refine S_q (Q_idx (sz := 1) tabOk rfl rfl rfl rfl rfl rfl rfl (j := j) rfl hjl) ?_
    refine S_load1 tabOk (v := .int .u64 S[j]) rfl rfl (fun w' hw => by rw [Nat.zero_add, Nat.mul_one]; exact own_cell (hw.own _ (getE_mem (i := 1) rfl)) (by omega) e1) ?_
    repeat (first | refine T_seq ?_ | refine T_region ?_ | refine S_nil ?_ | refine S_pure tabOk rfl ?_)
    by_cases hin : S[j] ∈ bNums (gsK K)
    · rw [if_pos hin, List.append_nil] at hs1
      refine S_callq (v := .bool true) rfl Try.call37 (fun w1 h1 => by
        rw [← decide_eq_true hin]
        exact rhas13_ok (rb_read (h1.own _ (getE_mem (i := 2) rfl)) (h1.own _ (getE_mem (i := 3) rfl)) (h1.own _ (getE_mem (i := 4) rfl)).1 hok) hok S[j]) ?_
      repeat (first | refine S_nil ?_ | refine S_pure tabOk rfl ?_)
      refine T_cond_f rfl ?_
      repeat (first | refine T_region ?_ | refine S_nil ?_ | refine pthen_normal ?_ | refine inb_normal ?_ | refine T_skip ?_ | refine S_i64 tabOk rfl (by omega) ?_ | refine S_pure tabOk rfl ?_)
      exact ⟨⟨j + 1, a2, c2⟩, by show j + 1 ≤ S.length; omega, by dsimp only; rw [hs1]; repeat (first | exact Sub.nil | refine Sub.cons rfl ?_), fun w' hw => by dsimp only; rw [hs1]; exact hw, by show S.length - (j + 1) < S.length - j; omega⟩
    · rw [if_neg hin] at hs1
      refine S_callq (v := .bool false) rfl Try.call37 (fun w1 h1 => by
        rw [← decide_eq_false hin]
        exact rhas13_ok (rb_read (h1.own _ (getE_mem (i := 2) rfl)) (h1.own _ (getE_mem (i := 3) rfl)) (h1.own _ (getE_mem (i := 4) rfl)).1 hok) hok S[j]) ?_
      repeat (first | refine S_nil ?_ | refine S_pure tabOk rfl ?_)
      refine T_cond_t rfl ?_
      repeat (first | refine S_pure tabOk rfl ?_ | refine T_region_any ?_)
      refine S_bslice tabOk rfl rfl rfl rfl rfl rfl rfl rfl rfl rfl rfl rfl (fun b23 hb23 => ?_)
      refine S_append (ty := 0) tabOk 1 (k := 1) (news := u64s [S[j]]) rfl rfl rfl rfl rfl rfl rfl rfl rfl (by decide) (fun w' hw => Sl.of_blk (hw.own _ (getE_mem (i := 0) rfl)) rfl (fun j u hu => by rw [Nat.zero_add]; exact hu)) (fun u hu => u64s_one hu) (by simp only [maxLen]; omega) (by show (_ + _) * 8 ≤ _; omega) rfl (fun A1 C1 hc3 hd3 => ⟨_, rfl, ?_⟩)
      rw [show u64s (flt j) ++ u64s [S[j]] = u64s (flt (j + 1)) from by rw [hs1]; exact List.map_append.symm, show (flt j).length + 1 = (flt (j + 1)).length from by rw [hs1, List.length_append]; rfl]
      repeat (first | refine T_region ?_ | refine S_nil ?_ | refine pthen_normal ?_ | refine inb_normal ?_ | refine S_i64 tabOk rfl (by omega) ?_ | refine S_pure tabOk rfl ?_)
      exact ⟨⟨j + 1, A1, C1⟩, by show j + 1 ≤ S.length; omega, by repeat (first | exact Sub.nil | refine Sub.cons rfl ?_), fun w' hw => hw.less (by repeat (first | exact Less.nil | refine Less.keep ?_ | refine Less.dropB (by first | assumption | omega) ?_)), by show S.length - (j + 1) < S.length - j; omega⟩
  have hje : j = S.length := by omega
  subst hje
  rw [hfl] at hbj ⊢
  obtain ⟨N, hNe⟩ : ∃ N, N = newL (gsK K) l := ⟨_, rfl⟩
  rw [← hNe] at hbj ⊢
  repeat (first | refine T_seq ?_ | refine T_region ?_ | refine S_nil ?_ | refine pthen_normal ?_ | refine inb_hit ?_ | refine pthen_exit ?_ | refine T_exit ?_ | refine S_pure tabOk rfl ?_)
  refine T_cond_dec rfl (fun h0 => ?_) (fun h0 => ?_)
  · have hb : bSend f m (gsK K) last now l = (gsK K, last, 0) := by
      unfold bSend
      rw [if_pos (by rw [← hNe]; exact List.length_eq_zero_iff.1 (by omega))]
    rw [hb]
    repeat (first | refine T_seq ?_ | refine T_region ?_ | refine S_nil ?_ | refine pthen_ret ?_ | refine T_ret ?_ | refine S_pure tabOk rfl ?_)
    refine ret1 rfl rfl (fun w' hw => ⟨rfl, ?_⟩)
    exact rb_close (F0 := F) (ol := []) [] (hw.less (o' := rbL 0 xb f m last K a c G false) (by repeat (first | exact Less.nil | refine Less.keep ?_ | refine Less.dropW (Nat.le_refl _) ?_))) rfl hp hok hne hF (fun e he => by cases he) (fun e he => by cases he) (rb_cov (.inl hFx) (fun k hk => .inl (hFr k hk)) fun k hk => .inl (hFG k hk)) (fun e he => by cases he)
  have hNn : N ≠ [] := fun e => h0 (by rw [e]; rfl)
  have hb : bSend f m (gsK K) last now l = (gsK K ++ [⟨last + 1, N, now + W f m 0, 1⟩], last + 1, last + 1) := by
    unfold bSend
    rw [if_neg (by rw [← hNe]; exact hNn), ← hNe]
  rw [hb]
  dsimp only
  have hW := W_pos hp.1 hp.2.1 0
  have hp3 := hp.2.2
  repeat (first | refine T_seq ?_ | refine T_region ?_ | refine S_nil ?_ | refine pthen_normal ?_ | refine T_skip ?_ | refine S_u64 tabOk rfl (by omega) ?_ | refine S_pure tabOk rfl ?_ | refine S_load tabOk 2 rfl rfl rfl ?_ | refine S_store tabOk 2 rfl rfl rfl rfl rfl rfl ?_)
  refine T_drawN (by kernel_rfl) (by kernel_rfl) [1, 6, 21, 24, 25, 28] (by kernel_rfl) (by kernel_rfl) (by kernel_rfl) [.blk xb (rbC f m a K.length c (last + 1)) false] (noex_blk noex_nil)
    [some (bptr xb), none, some (bptr xb), some (bptr xb), some (.pointer (some ⟨xb, 0 + 2, none⟩)), some (.slice a K.length c), none, some (bptr xb), some (bptr xb), some (.pointer (some ⟨xb, 0 + 3, none⟩)), some (.int .u64 (last + 1)), some (.slice a2 N.length c2), some (.int .i64 now), some (bptr xb), some (bptr xb), some (.pointer (some ⟨xb, 0 + 0, none⟩)), some (.int .i64 f), some (bptr xb), some (bptr xb), some (.pointer (some ⟨xb, 0 + 1, none⟩)), some (.int .i64 m), some (.int .i64 (W f m 0)), some (.int .i64 (now + W f m 0)), some (.agg ⟨[.int .u64 (last + 1), .slice a2 N.length c2, .int .i64 (now + W f m 0), .int .i64 1]⟩), none, none, some (bptr xb), some (.pointer (some ⟨xb, 0 + 2, none⟩)), none]
    28 (by kernel_rfl) (by kernel_rfl)
    ⟨.inr ⟨_, _, rfl, rfl, fun w f => D_pure tabOk rfl D_last⟩, .inl rfl, .inr ⟨_, _, rfl, rfl, fun w f => D_pure tabOk rfl D_last⟩, .inr ⟨_, _, rfl, rfl, fun w f => D_pure tabOk rfl D_last⟩, .inr ⟨_, _, rfl, rfl, fun w f => D_pure tabOk rfl D_last⟩, .inr ⟨_, _, rfl, rfl, fun w f => D_load tabOk 0 rfl rfl rfl D_last⟩, .inl rfl, .inr ⟨_, _, rfl, rfl, fun w f => D_pure tabOk rfl D_last⟩, .inr ⟨_, _, rfl, rfl, fun w f => D_pure tabOk rfl D_last⟩, .inr ⟨_, _, rfl, rfl, fun w f => D_pure tabOk rfl D_last⟩, .inr ⟨_, _, rfl, rfl, fun w f => D_load tabOk 0 rfl rfl rfl D_last⟩, .inr ⟨_, _, rfl, rfl, fun w f => D_pure tabOk rfl D_last⟩, .inr ⟨_, _, rfl, rfl, fun w f => D_pure tabOk rfl D_last⟩, .inr ⟨_, _, rfl, rfl, fun w f => D_pure tabOk rfl D_last⟩, .inr ⟨_, _, rfl, rfl, fun w f => D_pure tabOk rfl D_last⟩, .inr ⟨_, _, rfl, rfl, fun w f => D_pure tabOk rfl D_last⟩, .inr ⟨_, _, rfl, rfl, fun w f => D_load tabOk 0 rfl rfl rfl D_last⟩, .inr ⟨_, _, rfl, rfl, fun w f => D_pure tabOk rfl D_last⟩, .inr ⟨_, _, rfl, rfl, fun w f => D_pure tabOk rfl D_last⟩, .inr ⟨_, _, rfl, rfl, fun w f => D_pure tabOk rfl D_last⟩, .inr ⟨_, _, rfl, rfl, fun w f => D_load tabOk 0 rfl rfl rfl D_last⟩, .inl rfl, .inr ⟨_, _, rfl, rfl, fun w f => D_i64 tabOk rfl (by omega) D_last⟩, .inr ⟨_, _, rfl, rfl, fun w f => D_q (Q_build tabOk rfl rfl rfl rfl rfl rfl rfl) D_last⟩, .inl rfl, .inl rfl, .inr ⟨_, _, rfl, rfl, fun w f => D_pure tabOk rfl D_last⟩, .inr ⟨_, _, rfl, rfl, fun w f => D_pure tabOk rfl D_last⟩, .inl rfl, trivial⟩ ?_
  refine SN_step [] (base_blk 2 rfl base_nil) rfl .nil ?_
  refine S_bslice tabOk rfl rfl rfl rfl rfl rfl rfl rfl rfl rfl rfl rfl (fun b37 hb37 => ?_)
  refine S_nil ⟨_, rfl, (fun u h => by cases h), ?_⟩
  refine SN_step [(37, .slice (some ⟨b37, 0, none⟩) 0 0), (41, .slice a K.length c)] (base_blk 3 rfl base_nil) rfl (.cons rfl rfl (.cons rfl rfl .nil)) ?_
  refine S_heap (fun w' h => Hp.closeRow (pre := []) (n := 0) (c := 0) (sz := 4) (cs := []) h hb37 (by decide) (by decide) rfl) ?_
  refine S_append (ty := 0) tabOk 0 (k := K.length) (news := cellsG K) rfl rfl rfl rfl rfl rfl rfl rfl rfl (by decide) (fun w' hw => Sl.of_own (hw.own _ (getE_mem (i := 4) rfl))) (fun u hu => cellsG_one hu) (by simp only [maxLen]; omega) (by show (_ + _) * 48 ≤ _; omega) rfl (fun A1 C1 hc3 hd3 => ⟨_, rfl, ?_⟩)
  rw [show List.take (0 * 4) ([] : List Value) ++ cellsG K = cellsG K from rfl, Nat.zero_add]
  refine S_nil ⟨_, rfl, (fun u h => by cases h), ?_⟩
  refine SN_step [(52, .int .i64 f), (56, .int .i64 m)] (base_blk 3 rfl base_nil) rfl (.cons rfl rfl (.cons rfl rfl .nil)) ?_
  refine S_callq (v := .int .i64 (W f m 0)) rfl Try.call38 (fun w1 g1 => waitr_w f m 0 w1 hp.1 hp.2.2 hp.2.1 (by decide)) ?_
  refine S_nil ⟨_, rfl, (fun u h => by cases h; rfl), ?_⟩
  refine SN_step [(59, .agg ⟨[.int .u64 (last + 1), .slice a2 N.length c2, .int .i64 (now + W f m 0), .int .i64 1]⟩)] (base_blk 3 rfl base_nil) rfl (.cons rfl rfl .nil) ?_
  refine S_bslice tabOk rfl rfl rfl rfl rfl rfl rfl rfl rfl rfl rfl rfl (fun b60 hb60 => ?_)
  refine S_nil ⟨_, rfl, (fun u h => by cases h), ?_⟩
  refine SN_step [(42, .slice A1 K.length C1), (60, .slice (some ⟨b60, 0, none⟩) 1 1)] (base_blk 4 rfl base_nil) rfl (.cons rfl rfl (.cons rfl rfl .nil)) ?_
  refine S_append (ty := 0) tabOk 1 (k := 1) (news := cellsG [⟨⟨last + 1, N, now + W f m 0, 1⟩, ⟨a2, N.length, c2⟩⟩]) rfl rfl rfl rfl rfl rfl rfl rfl rfl (by decide) (fun w' hw => Sl.of_blk (hw.own _ (getE_mem (i := 0) rfl)) rfl (fun j u hu => by rw [Nat.zero_add]; exact hu)) (fun u hu => cellsG_one hu) (by simp only [maxLen]; omega) (by show (_ + _) * 48 ≤ _; omega) rfl (fun A2 C2 hc4 hd4 => ⟨_, rfl, ?_⟩)
  rw [← cellsG_app]
  refine S_nil ⟨_, rfl, (fun u h => by cases h), ?_⟩
  refine SN_step [(63, .pointer (some ⟨xb, 0 + 2, none⟩)), (61, .slice A2 (K.length + 1) C2)] (base_blk 4 rfl base_nil) rfl (.cons rfl rfl (.cons rfl rfl .nil)) ?_
  refine S_store tabOk 4 rfl rfl rfl rfl rfl rfl ?_
  refine S_nil ⟨_, rfl, (fun u h => by cases h), ?_⟩
  refine SN_end [(0, bptr xb)] (by repeat (first | exact SubD.nil | refine SubD.cons rfl ?_)) ?_
  repeat (first | refine T_seq ?_ | refine T_region ?_ | refine S_nil ?_ | refine T_ret ?_ | refine S_pure tabOk rfl ?_ | refine S_load tabOk 4 rfl rfl rfl ?_)
  refine ret1 rfl rfl (fun w' hw => ⟨rfl, ?_⟩)
  obtain ⟨G', hG', h9⟩ := Hp.rowG (g := ⟨last + 1, N, now + W f m 0, 1⟩) (hw.pm [2, 6, 4, 1, 0, 3, 5] rfl rfl rfl) (fun x hx => by
    have : x ∈ newL (gsK K) l := hNe ▸ hx
    exact (hl.flat (flat_int .u64)).2 x (newL_mem.1 this).1) rfl
  obtain ⟨K', hK'⟩ : ∃ K', K' = K ++ [(⟨⟨last + 1, N, now + W f m 0, 1⟩, ⟨a2, N.length, c2⟩⟩ : GX)] := ⟨_, rfl⟩
  have hKl' : K'.length = K.length + 1 := by rw [hK', List.length_append]; rfl
  rw [← hK', ← hKl'] at h9
  have hgs : gsK K' = gsK K ++ [⟨last + 1, N, now + W f m 0, 1⟩] := by rw [hK']; show List.map GX.g (K ++ _) = _; rw [List.map_append]; rfl
  have hNl : N.length ≤ l.length := hNe ▸ newLL_len'
  refine rb_close (base := w.heap.size) (F0 := F) (K := K') (a := A2) (c := C2) (ol := []) [.row 0 (.slice a K.length c) 99 4 K.length (cellsG K)] ((h9.pm [1, 2, 0, 5, 3, 4] rfl rfl rfl).less (o' := rbL w.heap.size xb f m (last + 1) K' A2 C2 G' false ++ [.row 0 (.slice a K.length c) 99 4 K.length (cellsG K)]) (by repeat (first | exact Less.nil | refine Less.keep ?_ | refine Less.dropB (by first | assumption | omega) ?_ | refine Less.dropW (Nat.le_refl _) ?_))) hgs hp (hok.push rfl ?_ (fun n hn => ?_) (fun n hn => ?_) rfl ?_ ?_ hla hcn) (fun g hg => ?_) hF (fun e he => by cases he) (fun e he => by cases he) (rb_cov (.inl hFx) (fun k hk => .inr ?_) fun k hk => (hG' k hk).imp (hFG k) id) (fun e he => by
    rw [List.mem_singleton] at he
    subst he
    exact ⟨rfl, fun k hk => .inl (hFr k hk)⟩)
  · rw [hNe]; exact sortU_srt _
  · rw [hNe] at hn
    exact (newL_mem.1 hn).2
  · rw [hNe] at hn
    exact (hl.flat (flat_int .u64)).2 n (newL_mem.1 hn).1
  · show 0 ≤ now + W f m 0 ∧ now + W f m 0 ≤ 2305843009213693952
    omega
  · show (bNums (gsK K)).length + N.length ≤ 60000
    omega
  · rcases List.mem_append.1 hg with hg | hg
    · exact hne g hg
    · rw [List.mem_singleton] at hg
      subst hg
      exact hNn
  · have o2 : w'.ownsRow w.heap.size 99 4 (.slice A2 K'.length C2) K'.length (cellsG K') := h9.own _ (getE_mem (i := 2) rfl)
    exact (World.ownsRow.lt o2 k hk).1
end
end Go.Proofs.Ytidhpofcofknhaa
