/-
  The walk of NetPlays. Conditions: each theorem's own. What an act does to a net's list: the plain law of NetCounts. Conditions: each theorem's own. The walk of NetCounts. Conditions: each theorem's own. What is on the wire is no frame that nobody sent: the plain law of NetHonest. Conditions: each theorem's own. The walk of NetHonest. Conditions: each theorem's own. What NetApart needs of a net: the methods of a nil one, Send of a packet that lies apart, List of one packet. Conditions: each theorem's own. The walk of NetApart. Conditions: each theorem's own.
  Conditions: each theorem's own.
-/
import Derived.Test.YtnefhhoijonnaaaNw
namespace Go.Proofs.Ytnefhhoijonnaaa
open Go Go.RowKit
set_option linter.unusedVariables false







theorem ndouble0 (i : Int) (w : World) : Calls Try.prog 45 #[.pointer none, .int .i64 i] w fun e w' => e = .returned (.int .i64 4) ∧ Below w.heap.size w w' := by
  refine enter2 Try.func45 rfl rfl (Hp.refl w) ?_
  repeat (first | refine T_seq ?_ | refine T_region ?_ | refine S_nil ?_ | refine S_pure tabOk rfl ?_)
  refine S_callq rfl Try.call80 (fun w1 h1 => nat0 i w1) ?_
  repeat (first | refine T_seq ?_ | refine T_region ?_ | refine S_nil ?_ | refine pthen_ret ?_ | refine T_ret ?_ | refine T_cond_t rfl ?_ | refine S_pure tabOk rfl ?_)
  exact ret1 rfl rfl (fun w' hw => ⟨rfl, hw.below (by repeat (first | exact new_nil))⟩)
theorem nturn0 (i : Int) (w : World) : Calls Try.prog 40 #[.pointer none, .int .i64 i, .int .i64 0, .int .u8 1] w fun e w' => e = .returned (.int .i64 4) ∧ Below w.heap.size w w' := by
  refine enter4 Try.func40 rfl rfl (Hp.refl w) ?_
  repeat (first | refine T_seq ?_ | refine T_region ?_ | refine S_nil ?_ | refine S_pure tabOk rfl ?_)
  refine S_callq rfl Try.call80 (fun w1 h1 => nat0 i w1) ?_
  repeat (first | refine T_seq ?_ | refine T_region ?_ | refine S_nil ?_ | refine pthen_ret ?_ | refine T_ret ?_ | refine T_cond_t rfl ?_ | refine S_pure tabOk rfl ?_)
  exact ret1 rfl rfl (fun w' hw => ⟨rfl, hw.below (by repeat (first | exact new_nil))⟩)
theorem ndeliver0 (i : Int) (w : World) : Calls Try.prog 43 #[.pointer none, .int .i64 i] w fun e w' => e = .returned (.tuple #[.agg ⟨[.int .i64 0, .slice none 0 0]⟩, .int .i64 4]) ∧ Below w.heap.size w w' := by
  refine enter2 Try.func43 rfl rfl (Hp.refl w) ?_
  repeat (first | refine T_seq ?_ | refine T_region ?_)
  refine S_new tabOk rfl (fun b hb => ?_)
  repeat (first | refine T_seq ?_ | refine T_region ?_ | refine S_nil ?_ | refine S_pure tabOk rfl ?_)
  refine S_callq rfl Try.call80 (fun w1 h1 => nat0 i w1) ?_
  repeat (first | refine T_seq ?_ | refine T_region ?_ | refine S_nil ?_ | refine pthen_ret ?_ | refine T_ret ?_ | refine T_cond_t rfl ?_ | refine S_pure tabOk rfl ?_ | refine S_store tabOk 0 rfl rfl rfl rfl rfl rfl ?_ | refine S_q (Q_build tabOk rfl rfl rfl rfl rfl rfl rfl) ?_)
  exact ret2 rfl (res_cell tabOk 0 rfl rfl rfl rfl) rfl (fun w' hw => ⟨rfl, hw.below (by repeat (first | exact new_nil | refine new_cons (by first | assumption | omega) ?_))⟩)
theorem ndrop0 (i : Int) (w : World) : Calls Try.prog 41 #[.pointer none, .int .i64 i] w fun e w' => e = .returned (.int .i64 4) ∧ Below w.heap.size w w' := by
  refine enter2 Try.func41 rfl rfl (Hp.refl w) ?_
  repeat (first | refine T_seq ?_ | refine T_region ?_ | refine S_nil ?_ | refine S_pure tabOk rfl ?_)
  refine S_callq rfl Try.call43 (fun w1 h1 => ndeliver0 i w1) ?_
  repeat (first | refine S_pure tabOk rfl ?_)
  refine S_new tabOk rfl (fun b hb => ?_)
  repeat (first | refine T_seq ?_ | refine T_region ?_ | refine S_nil ?_ | refine T_ret ?_ | refine S_pure tabOk rfl ?_ | refine S_store tabOk 0 rfl rfl rfl rfl rfl rfl ?_)
  exact ret1 rfl rfl (fun w' hw => ⟨rfl, hw.below (by repeat (first | exact new_nil | refine new_cons (by first | assumption | omega) ?_))⟩)
theorem nreplay0 (i : Int) (w : World) : Calls Try.prog 42 #[.pointer none, .int .i64 i] w fun e w' => e = .returned (.int .i64 4) ∧ Below w.heap.size w w' := by
  refine enter2 Try.func42 rfl rfl (Hp.refl w) ?_
  repeat (first | refine T_seq ?_ | refine T_region ?_ | refine S_nil ?_ | refine S_pure tabOk rfl ?_)
  refine S_q (Q_eqptr tabOk rfl rfl rfl rfl rfl) ?_
  repeat (first | refine T_seq ?_ | refine T_region ?_ | refine S_nil ?_ | refine pthen_ret ?_ | refine T_ret ?_ | refine T_cond_t rfl ?_ | refine S_pure tabOk rfl ?_ | refine S_pass rfl rfl rfl ?_)
  exact ret1 rfl rfl (fun w' hw => ⟨rfl, hw.below (by repeat (first | exact new_nil))⟩)
theorem nforge0 (p : Pk) (w : World) : Calls Try.prog 44 #[.pointer none, .agg ⟨cellP p⟩] w fun e w' => e = .returned (.int .i64 4) ∧ Below w.heap.size w w' := by
  refine enter2 Try.func44 rfl rfl (Hp.refl w) ?_
  repeat (first | refine T_seq ?_ | refine T_region ?_)
  refine S_new tabOk rfl (fun b hb => ?_)
  repeat (first | refine T_seq ?_ | refine T_region ?_ | refine S_nil ?_ | refine S_pure tabOk rfl ?_)
  refine S_q (Q_eqptr tabOk rfl rfl rfl rfl rfl) ?_
  repeat (first | refine T_seq ?_ | refine T_region ?_ | refine S_nil ?_ | refine pthen_ret ?_ | refine T_ret ?_ | refine T_cond_t rfl ?_ | refine S_pure tabOk rfl ?_)
  exact ret1 rfl rfl (fun w' hw => ⟨rfl, hw.below (by repeat (first | exact new_nil | refine new_cons (by first | assumption | omega) ?_))⟩)
theorem nsend0 (p : Pk) (w : World) : Calls Try.prog 39 #[.pointer none, .agg ⟨cellP p⟩] w fun e w' => e = .returned (.int .i64 4) ∧ Below w.heap.size w w' := by
  refine enter2 Try.func39 rfl rfl (Hp.refl w) ?_
  repeat (first | refine T_seq ?_ | refine T_region ?_)
  refine S_new tabOk rfl (fun b hb => ?_)
  repeat (first | refine T_seq ?_ | refine T_region ?_ | refine S_nil ?_ | refine S_pure tabOk rfl ?_)
  refine S_q (Q_eqptr tabOk rfl rfl rfl rfl rfl) ?_
  repeat (first | refine T_seq ?_ | refine T_region ?_ | refine S_nil ?_ | refine pthen_ret ?_ | refine T_ret ?_ | refine T_cond_t rfl ?_ | refine S_pure tabOk rfl ?_)
  exact ret1 rfl rfl (fun w' hw => ⟨rfl, hw.below (by repeat (first | exact new_nil | refine new_cons (by first | assumption | omega) ?_))⟩)
theorem pmW0 {α : Type} (x0 x1 x2 x3 x4 x5 x6 : α) (r : List α) : List.Perm (x0 :: x1 :: x2 :: x3 :: x4 :: x5 :: x6 :: r) (x2 :: x3 :: x4 :: x5 :: x6 :: x1 :: x0 :: r) := by
  have hP : List.Perm ([0, 1, 2, 3, 4, 5, 6] : List Nat) [2, 3, 4, 5, 6, 1, 0] := by decide
  exact (hP.map fun i => ([x0, x1, x2, x3, x4, x5, x6][i]?).getD x0).append_right r
theorem pmW1 {α : Type} (x0 x1 x2 x3 x4 x5 x6 x7 : α) (r : List α) : List.Perm (x0 :: x1 :: x2 :: x3 :: x4 :: x5 :: x6 :: x7 :: r) (x1 :: x2 :: x3 :: x4 :: x5 :: x6 :: x7 :: x0 :: r) := by
  have hP : List.Perm ([0, 1, 2, 3, 4, 5, 6, 7] : List Nat) [1, 2, 3, 4, 5, 6, 7, 0] := by decide
  exact (hP.map fun i => ([x0, x1, x2, x3, x4, x5, x6, x7][i]?).getD x0).append_right r
theorem pmW2 {α : Type} (x0 x1 x2 x3 x4 x5 : α) (r : List α) : List.Perm (x0 :: x1 :: x2 :: x3 :: x4 :: x5 :: r) (x1 :: x5 :: x0 :: x2 :: x3 :: x4 :: r) := by
  have hP : List.Perm ([0, 1, 2, 3, 4, 5] : List Nat) [1, 5, 0, 2, 3, 4] := by decide
  exact (hP.map fun i => ([x0, x1, x2, x3, x4, x5][i]?).getD x0).append_right r
set_option maxHeartbeats 4000000 in
theorem sendG_ok {w0 w : World} {b : Nat} {K : List Pk} {G : Nat → Prop} {N : Nt} {rest : OL} {k : Nat} {q : Pk} (h : NetH w0 w 131 71 b K G N rest) (hN : N.ok K k) (hk : k ≤ 1000) (hqt : Fits .i64 q.to) (hqb : q.bs.length ≤ 70000) (hq : ∀ w1 ol, Hp w0 w1 ol → (∀ e ∈ rest, e ∈ ol) → Ints .u8 w1 q.a q.bs.length q.c q.bs) : Calls Try.prog 39 #[.pointer (some ⟨b, 0, none⟩), .agg ⟨cellP q⟩] w fun e w' => ∃ K' G' N', e = .returned (.int .i64 (errV q.v)) ∧ NetQ w0 w' 131 71 b K N rest (k + 1) (sendV N.v q.v) K' G' N' := by
  have hqf : ∀ z ∈ q.bs, Fits .u8 z := (hq w _ h (fun e he => by first | exact he | (repeat (first | exact he | refine List.mem_cons_of_mem _ ?_)))).fits
  obtain ⟨la, lc, sa, sc, Ln, Sn⟩ := N
  have hln := hN.ln
  have hsn := hN.sn
  dsimp only at hln hsn
  refine enterW2 Try.func39 rfl rfl h ?_
  repeat (first | refine T_seq ?_ | refine T_region ?_)
  refine S_new tabOk rfl (fun b1 hb1 => ?_)
  repeat (first | refine T_seq ?_ | refine T_region ?_ | refine S_nil ?_ | refine S_pure tabOk rfl ?_)
  refine S_q (Q_eqptr tabOk rfl rfl rfl rfl rfl) ?_
  repeat (first | refine S_nil ?_)
  refine T_cond_f rfl ?_
  repeat (first | refine T_seq ?_ | refine T_region ?_ | refine pthen_normal ?_ | refine T_skip ?_ | refine S_load tabOk 0 rfl rfl rfl ?_)
  refine S_callq rfl Try.call79 (fun w1 h1 => nerr_ok q w1) ?_
  repeat (first | refine T_seq ?_ | refine T_region ?_ | refine S_nil ?_ | refine S_pure tabOk rfl ?_)
  refine T_cond_dec rfl (fun he => ?_) (fun he => ?_)
  rotate_left
  · repeat (first | refine T_seq ?_ | refine T_region ?_ | refine S_nil ?_ | refine pthen_normal ?_ | refine T_skip ?_ | refine T_ret ?_ | refine S_pure tabOk rfl ?_)
    exact ret1 rfl rfl (fun w' hw => ⟨K, G, ⟨la, lc, sa, sc, Ln, Sn⟩, rfl, hw.less (by repeat (first | refine Less.keep ?_ | refine Less.dropB (by first | assumption | omega) ?_ | exact Less.same _)), ⟨hN.l, hN.s, Nat.le_succ_of_le hN.ln, Nat.le_succ_of_le hN.sn⟩, fun _ h => h, by unfold sendV; rw [if_neg he]⟩)
  repeat (first | refine T_seq ?_)
  let lst : Bool → Bool → Bool → Bool → Value × (Option Addr × Nat) → Value × (Option Addr × Nat) → Value × (Option Addr × Nat) → OL := fun l6 l7 l8 l11 x6 x7 x8 =>
    .blk b1 (.cells ⟨cellP q⟩ 71 (0, 0)) true :: knE w0 K G :: .blk b (.cells ⟨[cond l11 x8.1 (.slice la Ln.length lc), .slice sa Sn.length sc]⟩ 131 (0, 0)) true :: .row w0.heap.size (cond l8 x8.1 (.slice la Ln.length lc)) 71 2 (cond l8 (Ln.length + 1) Ln.length) (cond l8 (cellsP Ln ++ [.int .i64 q.to, .slice x6.2.1 q.bs.length x6.2.2]) (cellsP Ln)) :: rowP w0 71 sa sc Sn :: (cond l6 [.row w0.heap.size (.slice x6.2.1 q.bs.length x6.2.2) 5 1 q.bs.length (q.bs.map (.int .u8)), factE (x6.1 = .agg ⟨[.int .i64 q.to, .slice x6.2.1 q.bs.length x6.2.2]⟩)] [] ++ (cond l7 [.row w0.heap.size x7.1 71 2 1 [.int .i64 q.to, .slice x6.2.1 q.bs.length x6.2.2]] [] ++ rest))
  refine T_drawF (γ := Option Addr × Nat) (by kernel_rfl) (by kernel_rfl) (none, 0) (fun L f => lst (L 6) (L 7) (L 8) (L 11) (f 6) (f 7) (f 8)) rfl [some (.pointer (some ⟨b, 0, none⟩)), some (.pointer (some ⟨b, 0, none⟩)), some (.pointer (some ⟨b, 0, none⟩)), some (.pointer (some ⟨b, 0, none⟩)), some (.slice la Ln.length lc), some (.agg ⟨cellP q⟩), none, none, none, some (.pointer (some ⟨b, 0, none⟩)), some (.pointer (some ⟨b, 0, none⟩)), none] ?_ ?_
  · refine ⟨?_, ?_, ?_, ?_, ?_, ?_, ?_, ?_, ?_, ?_, ?_, ?_, trivial⟩
    · exact fun L f hc hl hp => OpA.told (none, 0) rfl (D_pure tabOk rfl D_last) rfl
    · exact fun L f hc hl hp => OpA.told (none, 0) rfl (D_pure tabOk rfl D_last) rfl
    · exact fun L f hc hl hp => OpA.told (none, 0) rfl (D_pure tabOk rfl D_last) rfl
    · exact fun L f hc hl hp => OpA.told (none, 0) rfl (D_pure tabOk rfl D_last) rfl
    · intro L f hc hl hp
      have h8 := closed_no hc (j := 8) rfl ⟨4, .data⟩ (by simp) rfl hl
      have h11 := closed_no hc (j := 11) rfl ⟨4, .phase⟩ (by simp) rfl hl
      show OpA _ _ _ _ (lst (L 6) (L 7) (L 8) (L 11) (f 6) (f 7) (f 8)) (fun y => lst (L 6) (L 7) (L 8) (L 11) (f 6) (f 7) (f 8)) _ _ _
      rw [h8, h11]
      exact OpA.told (none, 0) rfl (D_load tabOk 2 rfl rfl rfl D_last) rfl
    · intro L f hc hl hp
      have h6 := closed_no hc (j := 6) rfl ⟨5, .data⟩ (by simp) rfl hl
      have h7 := closed_no hc (j := 7) rfl ⟨6, .data⟩ (by simp) rfl h6
      have h8 := closed_no hc (j := 8) rfl ⟨6, .chain⟩ (by simp) rfl h6
      have h11 := closed_no hc (j := 11) rfl ⟨5, .phase⟩ (by simp) rfl hl
      show OpA _ _ _ _ (lst (L 6) (L 7) (L 8) (L 11) (f 6) (f 7) (f 8)) (fun y => lst (L 6) (L 7) (L 8) (L 11) (f 6) (f 7) (f 8)) _ _ _
      rw [h6, h7, h8, h11]
      exact OpA.told (none, 0) rfl (D_load tabOk 0 rfl rfl rfl D_last) rfl
    · intro L f hc hl hp
      have h7 := closed_no hc (j := 7) rfl ⟨6, .data⟩ (by simp) rfl hl
      have h8 := closed_no hc (j := 8) rfl ⟨6, .chain⟩ (by simp) rfl hl
      have h11 := closed_no hc (j := 11) rfl ⟨6, .phase⟩ (by simp) rfl hl
      show OpA _ _ _ _ (lst (L 6) (L 7) (L 8) (L 11) (f 6) (f 7) (f 8)) (fun y => lst true (L 7) (L 8) (L 11) y (f 7) (f 8)) _ _ _
      rw [hl, h7, h8, h11]
      refine OpA.call rfl Try.call78 (fun w1 vs hw h => ?_)
      obtain ⟨u1, _, rfl, rfl, u2, _, rfl, rfl, rfl⟩ := h
      refine (own_ok w1 (hq w1 _ hw (fun e he => by first | exact he | (repeat (first | exact he | refine List.mem_cons_of_mem _ ?_)))) hqb).mono fun e w2 ⟨ra, rc, e1, hb2, hr⟩ => ⟨_, (ra, rc), e1, ?_⟩
      have hw2 := hw.fresh hb2 (x := .row w0.heap.size (.slice ra q.bs.length rc) 5 1 q.bs.length (q.bs.map (.int .u8))) (own_rebase hr hw.size) (fun j hj => (World.ownsRow.lt hr j hj).1)
      exact (hw2.addF rfl).perm (pmW0 ..)
    · intro L f hc hl hp
      have h6 : L 6 = true := hp ⟨6, .data⟩ (by simp) rfl
      have h8 := closed_no hc (j := 8) rfl ⟨7, .data⟩ (by simp) rfl hl
      have h11 := closed_no hc (j := 11) rfl ⟨7, .phase⟩ (by simp) rfl hl
      show OpA _ _ _ _ (lst (L 6) (L 7) (L 8) (L 11) (f 6) (f 7) (f 8)) (fun y => lst (L 6) true (L 8) (L 11) (f 6) y (f 8)) _ _ _
      rw [hl, h6, h8, h11]
      refine OpA.pre (X := (f 6).1 = .agg ⟨[.int .i64 q.to, .slice (f 6).2.1 q.bs.length (f 6).2.2]⟩) (fun w hw => hw.fact 6 rfl) (fun d h => by cases h; decide) (fun e6 => ?_)
      refine OpA.swap (dl' := [(18, .ex (f 6).1)]) (List.forall_mem_cons.2 ⟨rfl, fun _ h => nomatch h⟩) ?_
      generalize f 6 = x6 at *
      obtain ⟨x6, g6⟩ := x6
      dsimp only at e6
      subst e6
      exact OpA.bsliceR tabOk rfl rfl rfl rfl rfl rfl rfl rfl rfl rfl rfl rfl rfl rfl (fun w1 v hw1 => ⟨(none, 0), hw1.perm (pmW1 ..)⟩)
    · intro L f hc hl hp
      have h6 : L 6 = true := hp ⟨6, .chain⟩ (by simp) rfl
      have h7 : L 7 = true := hp ⟨7, .data⟩ (by simp) rfl
      have h11 := closed_no hc (j := 11) rfl ⟨8, .data⟩ (by simp) rfl hl
      show OpA _ _ _ _ (lst (L 6) (L 7) (L 8) (L 11) (f 6) (f 7) (f 8)) (fun y => lst (L 6) (L 7) true (L 11) (f 6) (f 7) y) _ _ _
      rw [hl, h6, h7, h11]
      refine OpA.pre (X := ∃ A C, (f 7).1 = .slice A 1 C) (fun w hw => ?_) (fun d h => by cases h; decide) ?_
      · obtain ⟨A, C, e2, _⟩ := hw.rowForm 7 rfl
        exact ⟨A, C, e2⟩
      · rintro ⟨A', C', e2⟩
        generalize hx7 : f 7 = x7
        rw [hx7] at e2
        obtain ⟨x7, g7⟩ := x7
        dsimp only at e2
        subst e2
        refine OpA.ofS (l := [(16, .slice la Ln.length lc), (19, .slice A' 1 C')]) rfl (by decide) (.cons rfl rfl (.cons rfl (by show some (Ent.ex (f 7).1) = _; rw [hx7]) .nil)) ?_
        refine S_append (ty := 0) tabOk 3 (m := Ln.length) (v := .slice la Ln.length lc) (xs := cellsP Ln) (news := [.int .i64 q.to, .slice (f 6).2.1 q.bs.length (f 6).2.2]) rfl rfl rfl rfl rfl rfl rfl rfl rfl (by decide) (fun w' hw => Sl.of_own (hw.own _ (getE_mem (i := 7) rfl))) (by intro u hu; simp only [List.mem_cons, List.not_mem_nil, or_false] at hu; rcases hu with rfl | rfl <;> rfl) (by simp only [maxLen]; omega) (by show (_ + _) * 32 ≤ _; omega) rfl (fun AS CS hcS hdS => ⟨_, rfl, ?_⟩)
        refine S_nil ?_
        exact ⟨_, (none, 0), rfl, (fun u h => by cases h), fun w hw => hw⟩
    · exact fun L f hc hl hp => OpA.told (none, 0) rfl (D_pure tabOk rfl D_last) rfl
    · exact fun L f hc hl hp => OpA.told (none, 0) rfl (D_pure tabOk rfl D_last) rfl
    · intro L f hc hl hp
      have h6 : L 6 = true := hp ⟨6, .phase⟩ (by simp) rfl
      have h7 : L 7 = true := hp ⟨7, .phase⟩ (by simp) rfl
      have h8 : L 8 = true := hp ⟨8, .data⟩ (by simp) rfl
      show OpA _ _ _ _ (lst (L 6) (L 7) (L 8) (L 11) (f 6) (f 7) (f 8)) (fun y => lst (L 6) (L 7) (L 8) true (f 6) (f 7) (f 8)) _ _ _
      rw [hl, h6, h7, h8]
      refine OpA.pre (X := ∃ A C, (f 8).1 = .slice A (Ln.length + 1) C) (fun w hw => ?_) (fun d h => by cases h) ?_
      · obtain ⟨A, C, e2, _⟩ := hw.rowForm 3 rfl
        exact ⟨A, C, e2⟩
      · rintro ⟨A', C', e2⟩
        refine OpA.swap (dl' := [(22, .ex (.pointer (some ⟨b, 0, none⟩))), (20, .ex (f 8).1)]) (List.forall_mem_cons.2 ⟨rfl, List.forall_mem_cons.2 ⟨rfl, fun _ h => nomatch h⟩⟩) ?_
        generalize f 8 = x8 at *
        obtain ⟨x8, g8⟩ := x8
        dsimp only at e2
        subst e2
        exact OpS.toF (none, 0) (fun u h => by cases h) (OpS.store tabOk 2 rfl rfl (fun u h => by rw [List.mem_singleton] at h; subst h; rfl) rfl rfl rfl)
  · intro L f w5 hL hw
    change Hp _ _ (lst (L 6) (L 7) (L 8) (L 11) (f 6) (f 7) (f 8)) at hw
    rw [hL 6 (by decide), hL 7 (by decide), hL 8 (by decide), hL 11 (by decide)] at hw
    obtain ⟨A1, C1, e2, _⟩ := hw.rowForm 3 rfl
    generalize f 8 = x8 at hw e2 ⊢
    obtain ⟨x8, g8⟩ := x8
    have e3 : x8 = .slice A1 (Ln.length + 1) C1 := e2
    subst e3
    obtain ⟨y1, hy⟩ : ∃ y, y = (f 6).2 := ⟨_, rfl⟩
    have hw6 : Hp w0 w5 ([.blk b1 (.cells ⟨cellP q⟩ 71 (0, 0)) true, knE w0 K G, .blk b (.cells ⟨[.slice A1 (Ln.length + 1) C1, .slice sa Sn.length sc]⟩ 131 (0, 0)) true, .row w0.heap.size (.slice A1 (Ln.length + 1) C1) 71 2 (Ln.length + 1) (cellsP Ln ++ [.int .i64 q.to, .slice y1.1 q.bs.length y1.2]), rowP w0 71 sa sc Sn, .row w0.heap.size (.slice y1.1 q.bs.length y1.2) 5 1 q.bs.length (q.bs.map (.int .u8)), factE ((f 6).1 = .agg ⟨[.int .i64 q.to, .slice y1.1 q.bs.length y1.2]⟩), .row w0.heap.size (f 7).1 71 2 1 [.int .i64 q.to, .slice y1.1 q.bs.length y1.2]] ++ rest) := by rw [hy]; exact hw
    obtain ⟨G2, hw8⟩ := Hp.snocK (p := (⟨q.to, q.bs, y1.1, y1.2⟩ : Pk)) (hw6.perm (pmW2 ..)) hqt hqb hqf
    have hw9 : Hp w0 w5 (knE w0 (K ++ [(⟨q.to, q.bs, y1.1, y1.2⟩ : Pk)]) G2 :: .blk b1 (.cells ⟨cellP q⟩ 71 (0, 0)) true :: nbE 131 b A1 (Ln ++ [(⟨q.to, q.bs, y1.1, y1.2⟩ : Pk)]).length C1 sa Sn.length sc :: rowP w0 71 A1 C1 (Ln ++ [(⟨q.to, q.bs, y1.1, y1.2⟩ : Pk)]) :: rowP w0 71 sa sc Sn :: rest) := by
      unfold nbE rowP
      rw [cellsP_snoc Ln (⟨q.to, q.bs, y1.1, y1.2⟩ : Pk), show (Ln ++ [(⟨q.to, q.bs, y1.1, y1.2⟩ : Pk)]).length = Ln.length + 1 from List.length_append]
      exact hw8.less (by repeat (first | refine Less.keep ?_ | refine Less.dropR ?_ | refine Less.dropW (Nat.le_refl _) ?_ | exact Less.same _))
    have hw9 := hw9.perm (List.Perm.swap _ _ _)
    refine ⟨[(0, .pointer (some ⟨b, 0, none⟩)), (3, .pointer (some ⟨b1, 0, none⟩)), (5, .int .i64 (errV q.v))], _, (by repeat (first | exact SubD.nil | refine SubD.cons rfl ?_)), hw9, ?_⟩
    skip
    clear hw hw6 hw8 hw9 hL
    let lst : Bool → Bool → Bool → Bool → Value × (Option Addr × Nat) → Value × (Option Addr × Nat) → Value × (Option Addr × Nat) → OL := fun l6 l7 l8 l11 x6 x7 x8 =>
      .blk b1 (.cells ⟨cellP q⟩ 71 (0, 0)) true :: knE w0 (K ++ [(⟨q.to, q.bs, y1.1, y1.2⟩ : Pk)]) G2 :: .blk b (.cells ⟨[.slice A1 (Ln ++ [(⟨q.to, q.bs, y1.1, y1.2⟩ : Pk)]).length C1, cond l11 x8.1 (.slice sa Sn.length sc)]⟩ 131 (0, 0)) true :: rowP w0 71 A1 C1 (Ln ++ [(⟨q.to, q.bs, y1.1, y1.2⟩ : Pk)]) :: .row w0.heap.size (cond l8 x8.1 (.slice sa Sn.length sc)) 71 2 (cond l8 (Sn.length + 1) Sn.length) (cond l8 (cellsP Sn ++ [.int .i64 q.to, .slice x6.2.1 q.bs.length x6.2.2]) (cellsP Sn)) :: (cond l6 [.row w0.heap.size (.slice x6.2.1 q.bs.length x6.2.2) 5 1 q.bs.length (q.bs.map (.int .u8)), factE (x6.1 = .agg ⟨[.int .i64 q.to, .slice x6.2.1 q.bs.length x6.2.2]⟩)] [] ++ (cond l7 [.row w0.heap.size x7.1 71 2 1 [.int .i64 q.to, .slice x6.2.1 q.bs.length x6.2.2]] [] ++ rest))
    refine T_drawF (γ := Option Addr × Nat) (by kernel_rfl) (by kernel_rfl) (none, 0) (fun L f => lst (L 6) (L 7) (L 8) (L 11) (f 6) (f 7) (f 8)) rfl [some (.pointer (some ⟨b, 0, none⟩)), some (.pointer (some ⟨b, 0, none⟩)), some (.pointer (some ⟨b, 0, none⟩)), some (.pointer (some ⟨b, 1, none⟩)), some (.slice sa Sn.length sc), some (.agg ⟨cellP q⟩), none, none, none, some (.pointer (some ⟨b, 0, none⟩)), some (.pointer (some ⟨b, 1, none⟩)), none] ?_ ?_
    · refine ⟨?_, ?_, ?_, ?_, ?_, ?_, ?_, ?_, ?_, ?_, ?_, ?_, trivial⟩
      · exact fun L f hc hl hp => OpA.told (none, 0) rfl (D_pure tabOk rfl D_last) rfl
      · exact fun L f hc hl hp => OpA.told (none, 0) rfl (D_pure tabOk rfl D_last) rfl
      · exact fun L f hc hl hp => OpA.told (none, 0) rfl (D_pure tabOk rfl D_last) rfl
      · exact fun L f hc hl hp => OpA.told (none, 0) rfl (D_pure tabOk rfl D_last) rfl
      · intro L f hc hl hp
        have h8 := closed_no hc (j := 8) rfl ⟨4, .data⟩ (by simp) rfl hl
        have h11 := closed_no hc (j := 11) rfl ⟨4, .phase⟩ (by simp) rfl hl
        show OpA _ _ _ _ (lst (L 6) (L 7) (L 8) (L 11) (f 6) (f 7) (f 8)) (fun y => lst (L 6) (L 7) (L 8) (L 11) (f 6) (f 7) (f 8)) _ _ _
        rw [h8, h11]
        exact OpA.told (none, 0) rfl (D_load tabOk 2 rfl rfl rfl D_last) rfl
      · intro L f hc hl hp
        have h6 := closed_no hc (j := 6) rfl ⟨5, .data⟩ (by simp) rfl hl
        have h7 := closed_no hc (j := 7) rfl ⟨6, .data⟩ (by simp) rfl h6
        have h8 := closed_no hc (j := 8) rfl ⟨6, .chain⟩ (by simp) rfl h6
        have h11 := closed_no hc (j := 11) rfl ⟨5, .phase⟩ (by simp) rfl hl
        show OpA _ _ _ _ (lst (L 6) (L 7) (L 8) (L 11) (f 6) (f 7) (f 8)) (fun y => lst (L 6) (L 7) (L 8) (L 11) (f 6) (f 7) (f 8)) _ _ _
        rw [h6, h7, h8, h11]
        exact OpA.told (none, 0) rfl (D_load tabOk 0 rfl rfl rfl D_last) rfl
      · intro L f hc hl hp
        have h7 := closed_no hc (j := 7) rfl ⟨6, .data⟩ (by simp) rfl hl
        have h8 := closed_no hc (j := 8) rfl ⟨6, .chain⟩ (by simp) rfl hl
        have h11 := closed_no hc (j := 11) rfl ⟨6, .phase⟩ (by simp) rfl hl
        show OpA _ _ _ _ (lst (L 6) (L 7) (L 8) (L 11) (f 6) (f 7) (f 8)) (fun y => lst true (L 7) (L 8) (L 11) y (f 7) (f 8)) _ _ _
        rw [hl, h7, h8, h11]
        refine OpA.call rfl Try.call78 (fun w1 vs hw h => ?_)
        obtain ⟨u1, _, rfl, rfl, u2, _, rfl, rfl, rfl⟩ := h
        refine (own_ok w1 (hq w1 _ hw (fun e he => by first | exact he | (repeat (first | exact he | refine List.mem_cons_of_mem _ ?_)))) hqb).mono fun e w2 ⟨ra, rc, e1, hb2, hr⟩ => ⟨_, (ra, rc), e1, ?_⟩
        have hw2 := hw.fresh hb2 (x := .row w0.heap.size (.slice ra q.bs.length rc) 5 1 q.bs.length (q.bs.map (.int .u8))) (own_rebase hr hw.size) (fun j hj => (World.ownsRow.lt hr j hj).1)
        exact (hw2.addF rfl).perm (pmW0 ..)
      · intro L f hc hl hp
        have h6 : L 6 = true := hp ⟨6, .data⟩ (by simp) rfl
        have h8 := closed_no hc (j := 8) rfl ⟨7, .data⟩ (by simp) rfl hl
        have h11 := closed_no hc (j := 11) rfl ⟨7, .phase⟩ (by simp) rfl hl
        show OpA _ _ _ _ (lst (L 6) (L 7) (L 8) (L 11) (f 6) (f 7) (f 8)) (fun y => lst (L 6) true (L 8) (L 11) (f 6) y (f 8)) _ _ _
        rw [hl, h6, h8, h11]
        refine OpA.pre (X := (f 6).1 = .agg ⟨[.int .i64 q.to, .slice (f 6).2.1 q.bs.length (f 6).2.2]⟩) (fun w hw => hw.fact 6 rfl) (fun d h => by cases h; decide) (fun e6 => ?_)
        refine OpA.swap (dl' := [(29, .ex (f 6).1)]) (List.forall_mem_cons.2 ⟨rfl, fun _ h => nomatch h⟩) ?_
        generalize f 6 = x6 at *
        obtain ⟨x6, g6⟩ := x6
        dsimp only at e6
        subst e6
        exact OpA.bsliceR tabOk rfl rfl rfl rfl rfl rfl rfl rfl rfl rfl rfl rfl rfl rfl (fun w1 v hw1 => ⟨(none, 0), hw1.perm (pmW1 ..)⟩)
      · intro L f hc hl hp
        have h6 : L 6 = true := hp ⟨6, .chain⟩ (by simp) rfl
        have h7 : L 7 = true := hp ⟨7, .data⟩ (by simp) rfl
        have h11 := closed_no hc (j := 11) rfl ⟨8, .data⟩ (by simp) rfl hl
        show OpA _ _ _ _ (lst (L 6) (L 7) (L 8) (L 11) (f 6) (f 7) (f 8)) (fun y => lst (L 6) (L 7) true (L 11) (f 6) (f 7) y) _ _ _
        rw [hl, h6, h7, h11]
        refine OpA.pre (X := ∃ A C, (f 7).1 = .slice A 1 C) (fun w hw => ?_) (fun d h => by cases h; decide) ?_
        · obtain ⟨A, C, e2, _⟩ := hw.rowForm 7 rfl
          exact ⟨A, C, e2⟩
        · rintro ⟨A', C', e2⟩
          generalize hx7 : f 7 = x7
          rw [hx7] at e2
          obtain ⟨x7, g7⟩ := x7
          dsimp only at e2
          subst e2
          refine OpA.ofS (l := [(27, .slice sa Sn.length sc), (30, .slice A' 1 C')]) rfl (by decide) (.cons rfl rfl (.cons rfl (by show some (Ent.ex (f 7).1) = _; rw [hx7]) .nil)) ?_
          refine S_append (ty := 0) tabOk 4 (m := Sn.length) (v := .slice sa Sn.length sc) (xs := cellsP Sn) (news := [.int .i64 q.to, .slice (f 6).2.1 q.bs.length (f 6).2.2]) rfl rfl rfl rfl rfl rfl rfl rfl rfl (by decide) (fun w' hw => Sl.of_own (hw.own _ (getE_mem (i := 7) rfl))) (by intro u hu; simp only [List.mem_cons, List.not_mem_nil, or_false] at hu; rcases hu with rfl | rfl <;> rfl) (by simp only [maxLen]; omega) (by show (_ + _) * 32 ≤ _; omega) rfl (fun AS CS hcS hdS => ⟨_, rfl, ?_⟩)
          refine S_nil ?_
          exact ⟨_, (none, 0), rfl, (fun u h => by cases h), fun w hw => hw⟩
      · exact fun L f hc hl hp => OpA.told (none, 0) rfl (D_pure tabOk rfl D_last) rfl
      · exact fun L f hc hl hp => OpA.told (none, 0) rfl (D_pure tabOk rfl D_last) rfl
      · intro L f hc hl hp
        have h6 : L 6 = true := hp ⟨6, .phase⟩ (by simp) rfl
        have h7 : L 7 = true := hp ⟨7, .phase⟩ (by simp) rfl
        have h8 : L 8 = true := hp ⟨8, .data⟩ (by simp) rfl
        show OpA _ _ _ _ (lst (L 6) (L 7) (L 8) (L 11) (f 6) (f 7) (f 8)) (fun y => lst (L 6) (L 7) (L 8) true (f 6) (f 7) (f 8)) _ _ _
        rw [hl, h6, h7, h8]
        refine OpA.pre (X := ∃ A C, (f 8).1 = .slice A (Sn.length + 1) C) (fun w hw => ?_) (fun d h => by cases h) ?_
        · obtain ⟨A, C, e2, _⟩ := hw.rowForm 4 rfl
          exact ⟨A, C, e2⟩
        · rintro ⟨A', C', e2⟩
          refine OpA.swap (dl' := [(33, .ex (.pointer (some ⟨b, 1, none⟩))), (31, .ex (f 8).1)]) (List.forall_mem_cons.2 ⟨rfl, List.forall_mem_cons.2 ⟨rfl, fun _ h => nomatch h⟩⟩) ?_
          generalize f 8 = x8 at *
          obtain ⟨x8, g8⟩ := x8
          dsimp only at e2
          subst e2
          exact OpS.toF (none, 0) (fun u h => by cases h) (OpS.store tabOk 2 rfl rfl (fun u h => by rw [List.mem_singleton] at h; subst h; rfl) rfl rfl rfl)
    · intro L f w5 hL hw
      change Hp _ _ (lst (L 6) (L 7) (L 8) (L 11) (f 6) (f 7) (f 8)) at hw
      rw [hL 6 (by decide), hL 7 (by decide), hL 8 (by decide), hL 11 (by decide)] at hw
      obtain ⟨A', C', e2, _⟩ := hw.rowForm 4 rfl
      generalize f 8 = x8 at hw e2 ⊢
      obtain ⟨x8, g8⟩ := x8
      have e3 : x8 = .slice A' (Sn.length + 1) C' := e2
      subst e3
      obtain ⟨y, hy⟩ : ∃ y, y = (f 6).2 := ⟨_, rfl⟩
      have hw6 : Hp w0 w5 ([.blk b1 (.cells ⟨cellP q⟩ 71 (0, 0)) true, knE w0 (K ++ [(⟨q.to, q.bs, y1.1, y1.2⟩ : Pk)]) G2, .blk b (.cells ⟨[.slice A1 (Ln ++ [(⟨q.to, q.bs, y1.1, y1.2⟩ : Pk)]).length C1, .slice A' (Sn.length + 1) C']⟩ 131 (0, 0)) true, rowP w0 71 A1 C1 (Ln ++ [(⟨q.to, q.bs, y1.1, y1.2⟩ : Pk)]), .row w0.heap.size (.slice A' (Sn.length + 1) C') 71 2 (Sn.length + 1) (cellsP Sn ++ [.int .i64 q.to, .slice y.1 q.bs.length y.2]), .row w0.heap.size (.slice y.1 q.bs.length y.2) 5 1 q.bs.length (q.bs.map (.int .u8)), factE ((f 6).1 = .agg ⟨[.int .i64 q.to, .slice y.1 q.bs.length y.2]⟩), .row w0.heap.size (f 7).1 71 2 1 [.int .i64 q.to, .slice y.1 q.bs.length y.2]] ++ rest) := by rw [hy]; exact hw
      obtain ⟨G2, hw8⟩ := Hp.snocK (p := (⟨q.to, q.bs, y.1, y.2⟩ : Pk)) (hw6.perm (pmW2 ..)) hqt hqb hqf
      have hw9 : Hp w0 w5 (knE w0 ((K ++ [(⟨q.to, q.bs, y1.1, y1.2⟩ : Pk)]) ++ [(⟨q.to, q.bs, y.1, y.2⟩ : Pk)]) G2 :: .blk b1 (.cells ⟨cellP q⟩ 71 (0, 0)) true :: nbE 131 b A1 (Ln ++ [(⟨q.to, q.bs, y1.1, y1.2⟩ : Pk)]).length C1 A' (Sn ++ [(⟨q.to, q.bs, y.1, y.2⟩ : Pk)]).length C' :: rowP w0 71 A1 C1 (Ln ++ [(⟨q.to, q.bs, y1.1, y1.2⟩ : Pk)]) :: rowP w0 71 A' C' (Sn ++ [(⟨q.to, q.bs, y.1, y.2⟩ : Pk)]) :: rest) := by
        unfold nbE rowP
        rw [cellsP_snoc Sn (⟨q.to, q.bs, y.1, y.2⟩ : Pk), show (Sn ++ [(⟨q.to, q.bs, y.1, y.2⟩ : Pk)]).length = Sn.length + 1 from List.length_append]
        exact hw8.less (by repeat (first | refine Less.keep ?_ | refine Less.dropR ?_ | refine Less.dropW (Nat.le_refl _) ?_ | exact Less.same _))
      have hw9 := hw9.perm (List.Perm.swap _ _ _)
      refine ⟨[(5, .int .i64 (errV q.v))], _, (by repeat (first | exact SubD.nil | refine SubD.cons rfl ?_)), hw9, ?_⟩
      repeat (first | refine T_seq ?_ | refine T_region ?_ | refine S_nil ?_ | refine T_ret ?_ | refine S_pure tabOk rfl ?_)
      refine ret1 rfl rfl (fun w' hw => ⟨_, _, ⟨A1, C1, A', C', Ln ++ [⟨q.to, q.bs, y1.1, y1.2⟩], Sn ++ [⟨q.to, q.bs, y.1, y.2⟩]⟩, rfl, hw.less (by repeat (first | refine Less.keep ?_ | refine Less.dropB (by first | assumption | omega) ?_ | exact Less.same _)), ⟨fun p hp => ?_, fun p hp => ?_, ?_, ?_⟩, fun _ h => List.mem_append_left _ (List.mem_append_left _ h), ?_⟩)
      · rcases List.mem_append.1 hp with hp | hp
        · exact List.mem_append_left _ (List.mem_append_left _ (hN.l p hp))
        · exact List.mem_append_left _ (List.mem_append_right _ hp)
      · rcases List.mem_append.1 hp with hp | hp
        · exact List.mem_append_left _ (List.mem_append_left _ (hN.s p hp))
        · exact List.mem_append_right _ hp
      · show (Ln ++ [_]).length ≤ _
        rw [List.length_append]
        show Ln.length + 1 ≤ _
        omega
      · show (Sn ++ [_]).length ≤ _
        rw [List.length_append]
        show Sn.length + 1 ≤ _
        omega
      · unfold sendV
        rw [if_pos he]
        unfold Nt.v
        dsimp only
        rw [List.map_append, List.map_append]
        rfl
theorem pmWz {α : Type} (x0 x1 x2 x3 x4 x5 x6 x7 : α) (r : List α) : List.Perm (x0 :: x1 :: x2 :: x3 :: x4 :: x5 :: x6 :: x7 :: r) (x3 :: x4 :: x5 :: x6 :: x7 :: x1 :: x0 :: x2 :: r) := by
  have hP : List.Perm ([0, 1, 2, 3, 4, 5, 6, 7] : List Nat) [3, 4, 5, 6, 7, 1, 0, 2] := by decide
  exact (hP.map fun i => ([x0, x1, x2, x3, x4, x5, x6, x7][i]?).getD x0).append_right r
abbrev rowU (w0 : World) (a : Option Addr) (c : Nat) (bs : List Int) : HE := .row w0.heap.size (.slice a bs.length c) 5 1 bs.length (bs.map (.int .u8))
structure L1I where
  a : Option Addr
  c : Nat
  ra : Option Addr
  rc : Nat
def l1F (q : Pk) : Option L1I → FL
  | none => [(3, .slice none 0 0), (13, .int .i64 0)]
  | some i => [(3, .slice i.a 1 i.c), (13, .int .i64 1)]
def l1O (w0 : World) (E : TypeId) (q : Pk) (rest : OL) : Option L1I → OL
  | none => .row w0.heap.size (.slice none 0 0) E 2 0 [] :: rest
  | some i => .row w0.heap.size (.slice i.a 1 i.c) E 2 1 (cellP ⟨q.to, q.bs, i.ra, i.rc⟩) :: rowU w0 i.ra i.rc q.bs :: rest
set_option maxHeartbeats 2000000 in
theorem nlist1_ok {w0 w : World} {b : Nat} {K : List Pk} {G : Nat → Prop} {la sa : Option Addr} {lc sc : Nat} {q : Pk} {Sn : List Pk} {rest : OL} {k : Nat} (h : NetH w0 w 131 71 b K G ⟨la, lc, sa, sc, [q], Sn⟩ rest) (hq : q ∈ K) : Calls Try.prog 36 #[.pointer (some ⟨b, 0, none⟩)] w fun e w' => ∃ a c ra rc, e = .returned (.slice a 1 c) ∧ NetH w0 w' 131 71 b K G ⟨la, lc, sa, sc, [q], Sn⟩ (rowP w0 71 a c [⟨q.to, q.bs, ra, rc⟩] :: rowU w0 ra rc q.bs :: rest) := by
  refine enterW1 Try.func36 rfl rfl h ?_
  repeat (first | refine T_seq ?_ | refine T_region ?_ | refine S_nil ?_ | refine S_pure tabOk rfl ?_)
  refine S_q (Q_eqptr tabOk rfl rfl rfl rfl rfl) ?_
  repeat (first | refine S_nil ?_)
  refine T_cond_f rfl ?_
  repeat (first | refine T_seq ?_ | refine T_region ?_ | refine T_block ?_ | refine S_nil ?_ | refine pthen_normal ?_ | refine T_skip ?_ | refine S_pure tabOk rfl ?_ | refine S_load tabOk 1 rfl rfl rfl ?_)
  refine T_loop (ι := Option L1I) (fun i => (11, .slice la 1 lc) :: (12, .int .i64 1) :: l1F q i)
    (fun i => knE w0 K G :: nbE 131 b la 1 lc sa Sn.length sc :: rowP w0 71 la lc [q] :: rowP w0 71 sa sc Sn :: l1O w0 71 q rest i)
    (fun _ => True) (fun i => match i with | none => 1 | some _ => 0) none trivial (by unfold l1F; repeat (first | exact Sub.nil | refine Sub.cons rfl ?_)) (fun w' hw => (hw.nilRow 71 2).perm (pmJ1 ..)) ?_
  rintro (_ | ⟨a, c, ra, rc⟩) _
  · unfold l1F l1O
    repeat (first | refine T_seq ?_ | refine T_region ?_ | refine S_nil ?_ | refine S_pure tabOk rfl ?_)
    refine T_cond_t rfl ?_
    refine T_kn (X := (∃ g, la = some ⟨g, 0, none⟩) ∧ okP0 K) (fun w hw => ⟨hw.rowA 2 (m := 1) rfl (by omega), (hw.okP 0 rfl).fit⟩) (fun ⟨⟨g, hg⟩, hok⟩ => ?_)
    subst hg
    obtain ⟨hqt, hqb, hqf⟩ := hok q hq
    repeat (first | refine T_seq ?_ | refine T_region ?_ | refine T_block ?_ | refine pthen_normal ?_ | refine T_skip ?_)
    refine S_q (Q_idx (sz := 2) tabOk rfl rfl rfl rfl rfl rfl rfl rfl (j := 0) (by decide)) ?_
    refine S_loadN tabOk (vs := cellP q) rfl rfl rfl (fun w' hw => row_cellP hw 2 rfl (i := 0) (Nat.one_pos)) ?_
    skip
    refine S_new tabOk rfl (fun b5 hb5 => ?_)
    repeat (first | refine S_nil ?_ | refine S_pure tabOk rfl ?_ | refine T_region_any ?_ | refine S_load tabOk 0 rfl rfl rfl ?_ | refine S_store tabOk 0 rfl rfl rfl rfl rfl rfl ?_)
    refine S_call rfl Try.call78 (fun w1 h1 => (own_ok w1 (okP.ints (h1.okP 1 rfl) hq) hqb).mono fun e w2 ⟨ra, rc, e1, hb2, hr⟩ => ⟨_, _, e1, h1.fresh hb2 (x := rowU w0 ra rc q.bs) (own_rebase hr h1.size) (fun j hj => (World.ownsRow.lt hr j hj).1), ?_⟩)
    skip
    refine S_bslice tabOk rfl rfl rfl rfl rfl rfl rfl rfl rfl rfl rfl rfl (fun b6 hb6 => ?_)
    skip
    refine S_append (ty := 0) tabOk 7 (m := 0) (v := .slice none 0 0) (xs := []) (news := cellP ⟨q.to, q.bs, ra, rc⟩) rfl rfl rfl rfl rfl rfl rfl rfl rfl (by decide) (fun w' hw => Sl.of_blk (hw.own _ (getE_mem (i := 0) rfl)) rfl fun j u hu => by rw [Nat.zero_add]; exact hu) (by intro u hu; simp only [List.mem_cons, List.not_mem_nil, or_false] at hu; rcases hu with rfl | rfl <;> rfl) (by simp only [maxLen]; omega) (by show (_ + _) * 32 ≤ _; omega) rfl (fun A' C' hc' hm' => ⟨_, rfl, ?_⟩)
    repeat (first | refine T_region ?_ | refine S_nil ?_ | refine pthen_normal ?_ | refine inb_normal ?_ | refine S_i64 tabOk rfl (by omega) ?_ | refine S_pure tabOk rfl ?_)
    refine ⟨some ⟨A', C', ra, rc⟩, trivial, by dsimp only; repeat (first | exact Sub.nil | refine Sub.cons rfl ?_), fun w' hw => ?_, Nat.one_pos⟩
    exact (hw.perm (pmWz ..)).less (by repeat (first | refine Less.keep ?_ | refine Less.dropB (by first | assumption | omega) ?_ | exact Less.same _))
  · unfold l1F l1O
    repeat (first | refine T_seq ?_ | refine T_region ?_ | refine S_nil ?_ | refine S_pure tabOk rfl ?_)
    refine T_cond_f rfl ?_
    repeat (first | refine T_seq ?_ | refine T_region ?_ | refine S_nil ?_ | refine pthen_normal ?_ | refine inb_hit ?_ | refine pthen_exit ?_ | refine T_ret ?_ | refine T_exit ?_ | refine S_pure tabOk rfl ?_)
    exact ret1 rfl rfl (fun w' hw => ⟨a, c, ra, rc, rfl, hw⟩)

theorem pmX0 {α : Type} (x0 x1 x2 x3 x4 : α) (r : List α) : List.Perm (x0 :: x1 :: x2 :: x3 :: x4 :: r) (x4 :: x0 :: x1 :: x2 :: x3 :: r) := by
  have hP : List.Perm ([0, 1, 2, 3, 4] : List Nat) [4, 0, 1, 2, 3] := by decide
  exact (hP.map fun i => ([x0, x1, x2, x3, x4][i]?).getD x0).append_right r
theorem pmX1 {α : Type} (x0 x1 x2 x3 x4 x5 : α) (r : List α) : List.Perm (x0 :: x1 :: x2 :: x3 :: x4 :: x5 :: r) (x5 :: x0 :: x1 :: x2 :: x3 :: x4 :: r) := by
  have hP : List.Perm ([0, 1, 2, 3, 4, 5] : List Nat) [5, 0, 1, 2, 3, 4] := by decide
  exact (hP.map fun i => ([x0, x1, x2, x3, x4, x5][i]?).getD x0).append_right r
theorem pmX2 {α : Type} (x0 x1 x2 x3 x4 x5 : α) (r : List α) : List.Perm (x0 :: x1 :: x2 :: x3 :: x4 :: x5 :: r) (x1 :: x2 :: x3 :: x4 :: x0 :: x5 :: r) := by
  have hP : List.Perm ([0, 1, 2, 3, 4, 5] : List Nat) [1, 2, 3, 4, 0, 5] := by decide
  exact (hP.map fun i => ([x0, x1, x2, x3, x4, x5][i]?).getD x0).append_right r
theorem pmX3 {α : Type} (x0 x1 x2 x3 x4 x5 x6 : α) (r : List α) : List.Perm (x0 :: x1 :: x2 :: x3 :: x4 :: x5 :: x6 :: r) (x1 :: x2 :: x3 :: x4 :: x0 :: x5 :: x6 :: r) := by
  have hP : List.Perm ([0, 1, 2, 3, 4, 5, 6] : List Nat) [1, 2, 3, 4, 0, 5, 6] := by decide
  exact (hP.map fun i => ([x0, x1, x2, x3, x4, x5, x6][i]?).getD x0).append_right r
theorem Hp.nilPk {w0 w : World} {K : List Pk} {G : Nat → Prop} {o : OL} {to : Int} (h : Hp w0 w (knE w0 K G :: o)) (ht : Fits .i64 to) : Hp w0 w (knE w0 (⟨to, [], none, 0⟩ :: K) G :: o) := by
  refine Hp.regroup [knE w0 K G] [_] h (fun e he => by rw [List.mem_singleton] at he; subst he; rfl) (fun e he => ?_) (List.pairwise_singleton _ _) (fun e he k hk => ?_) (fun e he k hk => ?_)
  · rw [List.mem_singleton] at he
    subst he
    obtain ⟨⟨h1, h2⟩, h3, h4⟩ := h.own _ List.mem_cons_self
    refine ⟨rfl, ⟨fun p hp => ?_, h2⟩, okP.loc, h4⟩
    rcases List.mem_cons.1 hp with rfl | hp
    · exact ⟨ht, by simp, SlR.nil_⟩
    · exact h1 p hp
  · rw [List.mem_singleton] at he
    subst he
    exact ⟨_, List.mem_singleton.2 rfl, hk⟩
  · rw [List.mem_singleton] at he
    subst he
    exact .inr ⟨_, List.mem_singleton.2 rfl, hk⟩
theorem pin_v {N : Nt} {v : PVal} {S : List PVal} (h : N.v = ([v], S)) : ∃ q : Pk, N.L = [q] ∧ q.v = v := by
  have h1 : N.L.map Pk.v = [v] := congrArg Prod.fst h
  match hL : N.L with
  | [] => rw [hL] at h1; cases h1
  | [q] => rw [hL] at h1; exact ⟨q, rfl, by injection h1⟩
  | _ :: _ :: _ => rw [hL] at h1; cases h1
theorem apart_law (v : PVal) (a b : Int) : ∃ v', turV ([v], [v]) 0 a b = ([v'], [v]) ∧ delV ([v'], [v]) 0 = ([], [v]) ∧ repV ([], [v]) 0 = ([v], [v]) := by
  unfold turV
  split
  · exact ⟨_, rfl, rfl, rfl⟩
  · exact ⟨v, rfl, rfl, rfl⟩
set_option maxHeartbeats 16000000 in
theorem netApart_walk (v : Value) (x : List Int) (to i : Int) (W : World) (h : (Rslice (Rint .u8)).val W TT v x) (hto : Fits .i64 to) (hi : Fits .i64 i) : Calls Try.prog 12 #[v, .int .i64 to, .int .i64 i] W fun e w' => e = .returned (.bool true) ∧ Below W.heap.size W w' := by
  obtain ⟨a, n, c, rfl, hx⟩ := SlR.form h
  have hx := hx.ints
  have htb := fits_i64 hto
  refine enter3 Try.func12 rfl rfl (Hp.refl W) ?_
  repeat (first | refine T_seq ?_ | refine T_region ?_ | refine S_nil ?_ | refine S_pure tabOk rfl ?_)
  refine S_callq (v := .bool true) rfl Try.call31 (fun w1 h1 => awake18_ok w1) ?_
  repeat (first | refine T_seq ?_ | refine T_region ?_ | refine S_nil ?_ | refine pthen_normal ?_ | refine T_skip ?_ | refine T_cond_f rfl ?_ | refine S_pure tabOk rfl ?_)
  refine S_callrow rfl Try.call24 (fun w1 h1 => cut_ok a n c x 50 w1 (ints_ext hx (h1.below (by repeat (first | exact new_nil)))) (by decide)) (fun a1 c1 hc1 hd1 => ?_)
  skip
  refine S_bslice tabOk rfl rfl rfl rfl rfl rfl rfl rfl rfl rfl rfl rfl (fun bl hbl => ?_)
  have hlt : (x.take 50).length ≤ 50 := by rw [List.length_take]; omega
  refine S_append (ty := 0) tabOk 1 (m := (x.take 50).length) (v := .slice a1 (x.take 50).length c1) (xs := (x.take 50).map (.int .u8)) (news := [.int .u8 1]) rfl rfl rfl rfl rfl rfl rfl rfl rfl (by decide) (fun w' hw => Sl.of_blk (hw.own _ (getE_mem (i := 0) rfl)) rfl fun j u hu => by rw [Nat.zero_add]; exact hu) (by intro u hu; rw [List.mem_singleton] at hu; subst hu; rfl) (by simp only [maxLen]; omega) (by show (_ + _) * 1 ≤ _; omega) rfl (fun ab cb hcb hdb => ⟨_, rfl, ?_⟩)
  obtain ⟨bs, hbs⟩ : ∃ bs, bs = x.take 50 ++ [1] := ⟨_, rfl⟩
  have hlen : (x.take 50).length + 1 = bs.length := by rw [hbs, List.length_append]; rfl
  have hmap : (x.take 50).map (.int .u8) ++ [Value.int .u8 1] = bs.map (.int .u8) := by rw [hbs, List.map_append]; rfl
  have hbf : ∀ z ∈ bs, Fits .u8 z := fun z hz => by
    rw [hbs] at hz
    rcases List.mem_append.1 hz with h1 | h1
    · exact hx.fits z (List.mem_of_mem_take h1)
    · rw [List.mem_singleton] at h1; subst h1; exact ⟨by decide, by decide⟩
  rw [hlen, hmap]
  rw [hlen] at hcb
  have hb0 : 0 < bs.length := by omega
  have hb5 : bs.length ≤ 51 := by omega
  clear hbs hmap
  repeat (first | refine T_seq ?_ | refine T_region ?_ | refine S_nil ?_ | refine S_pure tabOk rfl ?_)
  refine S_bslice tabOk rfl rfl rfl rfl rfl rfl rfl rfl rfl rfl rfl rfl (fun bj hbj => ?_)
  refine S_callrow rfl Try.call30 (fun w1 h1 => rjoin_ok w1 (Sl.of_blk (hb := h1.own _ (getE_mem (i := 0) rfl)) rfl fun j u hu => by rw [Nat.zero_add]; exact hu) (ints_own (h1.own _ (getE_mem (i := 2) rfl)) hbf) (by omega)) (fun am cm hcm hdm => ?_)
  repeat (first | refine T_seq ?_ | refine T_region ?_ | refine S_nil ?_ | refine S_pure tabOk rfl ?_)
  refine S_heap (ol' := rowU W am cm bs :: rowU W ab cb bs :: []) (fun w hw => hw.less (by repeat (first | exact Less.nil | refine Less.keep ?_ | refine Less.dropB (by first | assumption | omega) ?_))) ?_
  refine S_call rfl Try.call32 (fun w1 h1 => (nnew_ok h1).mono fun e w' ⟨b1, e1, hb, h2⟩ => ⟨_, _, e1, h2, ?_⟩)
  clear e1
  refine S_heap (ol' := knE W [] (fun _ => False) :: nbE 131 b1 (⟨none, 0, none, 0, [], []⟩ : Nt).la (⟨none, 0, none, 0, [], []⟩ : Nt).L.length (⟨none, 0, none, 0, [], []⟩ : Nt).lc (⟨none, 0, none, 0, [], []⟩ : Nt).sa (⟨none, 0, none, 0, [], []⟩ : Nt).S.length (⟨none, 0, none, 0, [], []⟩ : Nt).sc :: rowP W 71 (⟨none, 0, none, 0, [], []⟩ : Nt).la (⟨none, 0, none, 0, [], []⟩ : Nt).lc (⟨none, 0, none, 0, [], []⟩ : Nt).L :: rowP W 71 (⟨none, 0, none, 0, [], []⟩ : Nt).sa (⟨none, 0, none, 0, [], []⟩ : Nt).sc (⟨none, 0, none, 0, [], []⟩ : Nt).S :: rowU W am cm bs :: rowU W ab cb bs :: []) (fun w hw => (Hp.netN (E := 71) hw).nilK) ?_
  repeat (first | refine T_seq ?_ | refine T_region ?_ | refine S_nil ?_ | refine S_pure tabOk rfl ?_ | refine S_q (Q_build tabOk rfl rfl rfl rfl rfl rfl rfl) ?_)
  have he0 : errV ((0 : Int), bs) = 0 := by unfold errV; rw [if_neg (by dsimp only; omega), if_neg (by dsimp only; omega)]
  refine S_call rfl Try.call39 (fun w1 h1 => (sendG_ok (q := ⟨0, bs, am, cm⟩) h1 (nt_ok0 _ 0) (by omega) (mk_i64 (n := 0) (by decide)) (by dsimp only; omega) (fun w2 ol2 h2 hm => ints_own (h2.own _ (hm _ (getE_mem (i := 0) rfl))) hbf)).mono fun e w' ⟨K1, G1, N1, e1, q1⟩ => ⟨_, _, e1, q1.h, ?_⟩)
  rw [show errV (Pk.v ⟨0, bs, am, cm⟩) = 0 from he0]
  have hN1 := q1.ok
  have hv1 : N1.v = ([(0, bs)], [(0, bs)]) := by rw [q1.v]; unfold sendV; rw [if_pos (show errV (Pk.v ⟨0, bs, am, cm⟩) = 0 from he0)]; rfl
  clear e1 q1
  repeat (first | refine S_nil ?_ | refine S_pure tabOk rfl ?_)
  refine T_cond_f rfl ?_
  obtain ⟨p1, hp1, hpv1⟩ := pin_v hv1
  obtain ⟨la, lc, sa, sc, L1, S1⟩ := N1
  dsimp only at hp1
  subst hp1
  have hpb : p1.bs = bs := congrArg Prod.snd hpv1
  refine T_toX (ι := Unit) (fun _ => True) (fun _ => rowU W am cm bs :: knE W K1 G1 :: nbE 131 b1 (⟨la, lc, sa, sc, [p1], S1⟩ : Nt).la (⟨la, lc, sa, sc, [p1], S1⟩ : Nt).L.length (⟨la, lc, sa, sc, [p1], S1⟩ : Nt).lc (⟨la, lc, sa, sc, [p1], S1⟩ : Nt).sa (⟨la, lc, sa, sc, [p1], S1⟩ : Nt).S.length (⟨la, lc, sa, sc, [p1], S1⟩ : Nt).sc :: rowP W 71 (⟨la, lc, sa, sc, [p1], S1⟩ : Nt).la (⟨la, lc, sa, sc, [p1], S1⟩ : Nt).lc (⟨la, lc, sa, sc, [p1], S1⟩ : Nt).L :: rowP W 71 (⟨la, lc, sa, sc, [p1], S1⟩ : Nt).sa (⟨la, lc, sa, sc, [p1], S1⟩ : Nt).sc (⟨la, lc, sa, sc, [p1], S1⟩ : Nt).S :: rowU W ab cb bs :: []) (fun w hw => ⟨(), trivial, hw.perm (pmX0 ..)⟩) (fun _ _ => ?_)
  repeat (first | refine T_seq ?_ | refine T_region ?_ | refine pthen_normal ?_ | refine T_skip ?_ | refine S_pure tabOk rfl ?_)
  refine S_openRow (by omega) (fun bx junk hab hbb hmc hxl hjl hcm => ?_)
  subst hab
  refine S_q (Q_idx1 tabOk rfl rfl rfl rfl rfl rfl rfl rfl (j := 0) (by omega)) ?_
  refine S_load1 tabOk rfl rfl (v := .int .u8 bs[0]) (fun w' hw' => by rw [Nat.zero_add]; exact (cell_of_row w' bx _ _ _ _ (hw'.own _ (getE_mem (i := 0) rfl))).trans (by simpa using cells_get (List.getElem?_eq_getElem hb0))) ?_
  repeat (first | refine S_pure tabOk rfl ?_)
  refine S_q (Q_idx1 tabOk rfl rfl rfl rfl rfl rfl rfl rfl (j := 0) (by omega)) ?_
  refine S_store_of tabOk 0 rfl rfl (fun u hu => by rw [List.mem_singleton] at hu; subst hu; rfl) rfl (setMany_one (by rw [List.length_append, List.length_map]; omega)) rfl ?_
  refine S_heap (fun w hw => hw.dropn hbb) ?_

  repeat (first | refine T_seq ?_ | refine T_region ?_ | refine S_nil ?_ | refine S_pure tabOk rfl ?_)
  refine S_call rfl Try.call36 (fun w1 h1 => (nlist1_ok (k := 1) h1 (hN1.l p1 List.mem_cons_self)).mono fun e w' ⟨aB, cB, ra, rc, e1, h2⟩ => ⟨_, _, e1, h2.perm (pmX1 ..), ?_⟩)
  clear e1
  rw [hpb]
  refine S_kn (p := ∃ g, aB = some ⟨g, 0, none⟩) (fun w hw => hw.rowA 5 (m := 1) rfl (by omega)) (fun ⟨g, hg⟩ => ?_)
  subst hg
  refine S_q (Q_idx (sz := 2) tabOk rfl rfl rfl rfl rfl rfl rfl rfl (j := 0) (by omega)) ?_
  repeat (first | refine S_pure tabOk rfl ?_)
  refine S_load1 tabOk rfl rfl (v := .slice ra bs.length rc) (fun w' hw => by
    have h1 := row_cellP hw 5 rfl (i := 0) Nat.one_pos 1 (.slice ra bs.length rc) rfl
    rw [Addr.add_lit] at h1
    exact h1) ?_
  refine S_openRow (by omega) (fun bx junk hab hbb hmc hxl hjl hcm => ?_)
  subst hab
  refine S_q (Q_idx1 tabOk rfl rfl rfl rfl rfl rfl rfl rfl (j := 0) (by omega)) ?_
  refine S_load1 tabOk rfl rfl (v := .int .u8 bs[0]) (fun w' hw' => by rw [Nat.zero_add]; exact (cell_of_row w' bx _ _ _ _ (hw'.own _ (getE_mem (i := 0) rfl))).trans (by simpa using cells_get (List.getElem?_eq_getElem hb0))) ?_
  repeat (first | refine S_pure tabOk rfl ?_)
  refine S_q (Q_idx1 tabOk rfl rfl rfl rfl rfl rfl rfl rfl (j := 0) (by omega)) ?_
  refine S_store_of tabOk 0 rfl rfl (fun u hu => by rw [List.mem_singleton] at hu; subst hu; rfl) rfl (setMany_one (by rw [List.length_append, List.length_map]; omega)) rfl ?_
  refine S_heap (fun w hw => hw.dropn hbb) ?_

  repeat (first | refine T_seq ?_ | refine T_region ?_ | refine S_nil ?_ | refine S_pure tabOk rfl ?_)
  refine S_heap (ol' := knE W K1 G1 :: nbE 131 b1 (⟨la, lc, sa, sc, [p1], S1⟩ : Nt).la (⟨la, lc, sa, sc, [p1], S1⟩ : Nt).L.length (⟨la, lc, sa, sc, [p1], S1⟩ : Nt).lc (⟨la, lc, sa, sc, [p1], S1⟩ : Nt).sa (⟨la, lc, sa, sc, [p1], S1⟩ : Nt).S.length (⟨la, lc, sa, sc, [p1], S1⟩ : Nt).sc :: rowP W 71 (⟨la, lc, sa, sc, [p1], S1⟩ : Nt).la (⟨la, lc, sa, sc, [p1], S1⟩ : Nt).lc (⟨la, lc, sa, sc, [p1], S1⟩ : Nt).L :: rowP W 71 (⟨la, lc, sa, sc, [p1], S1⟩ : Nt).sa (⟨la, lc, sa, sc, [p1], S1⟩ : Nt).sc (⟨la, lc, sa, sc, [p1], S1⟩ : Nt).S :: rowU W ab cb bs :: []) (fun w hw => hw.less (by repeat (first | exact Less.nil | refine Less.keep ?_ | refine Less.dropW (Nat.le_refl _) ?_))) ?_
  refine S_call rfl Try.call40 (fun w1 h1 => (nturn_ok 0 0 7 (mk_i64 (by omega)) h1 hN1 (by omega)).mono fun e w' ⟨K2, G2, N2, e1, q2⟩ => ⟨_, _, e1, q2.h, ?_⟩)
  obtain ⟨v', t1, t2, t3⟩ := apart_law (0, bs) 0 7
  have hN2 := q2.ok
  have hv2 : N2.v = ([v'], [(0, bs)]) := by rw [q2.v, hv1, t1]
  clear e1 q2
  repeat (first | refine T_seq ?_ | refine T_region ?_ | refine S_nil ?_ | refine S_pure tabOk rfl ?_)
  refine S_call rfl Try.call41 (fun w1 h1 => (ndrop_ok 0 h1 hN2 (by omega)).mono fun e w' ⟨N3, e1, q3⟩ => ⟨_, _, e1, q3.h, ?_⟩)
  have hN3 := q3.ok
  have hv3 : N3.v = ([], [(0, bs)]) := by rw [q3.v, hv2, t2]
  clear e1 q3
  repeat (first | refine T_seq ?_ | refine T_region ?_ | refine S_nil ?_ | refine S_pure tabOk rfl ?_)
  refine S_call rfl Try.call42 (fun w1 h1 => (nreplay_ok 0 h1 hN3 (by omega)).mono fun e w' ⟨K4, G4, N4, e1, q4⟩ => ⟨_, _, e1, q4.h, ?_⟩)
  have hN4 := q4.ok
  have hv4 : N4.v = ([(0, bs)], [(0, bs)]) := by rw [q4.v, hv3, t3]
  rw [show (if atV 0 N3.v.2.length then 0 else 4 : Int) = 0 by rw [hv3]; rfl]
  clear e1 q4
  repeat (first | refine S_nil ?_ | refine S_pure tabOk rfl ?_)
  refine T_cond_f rfl ?_
  repeat (first | refine T_seq ?_ | refine T_region ?_ | refine pthen_normal ?_ | refine T_skip ?_ | refine S_pure tabOk rfl ?_)
  refine S_call rfl Try.call43 (fun w1 h1 => (ndeliver_ok 0 h1 hN4 (by omega)).mono fun e w' ⟨N5, e1, q5⟩ => ⟨_, _, e1, q5.h, ?_⟩)
  have hN5 := q5.ok
  rw [show (if atV 0 N4.v.1.length then 0 else 4 : Int) = 0 by rw [hv4]; rfl]
  obtain ⟨d, hd⟩ : ∃ d, d = delP N4 0 := ⟨_, rfl⟩
  have hdv : d.v = (0, bs) := by rw [hd, delP_v, hv4]; rfl
  have hdb : d.bs = bs := congrArg Prod.snd hdv
  have hdi : ∀ w G, okP w G K4 → Ints .u8 w d.a d.bs.length d.c d.bs := fun w G h => by rw [hd]; exact delP_ints h hN4 0
  rw [← hd]
  clear e1 q5 hd
  repeat (first | refine S_pure tabOk rfl ?_)
  refine S_new tabOk rfl (fun b9 hb9 => ?_)
  repeat (first | refine T_seq ?_ | refine T_region ?_ | refine S_nil ?_ | refine S_pure tabOk rfl ?_ | refine S_store tabOk 0 rfl rfl rfl rfl rfl rfl ?_)
  obtain ⟨X, hX⟩ : ∃ X, X = (-1 ≤ to ∧ to < 16) := ⟨_, rfl⟩
  haveI : Decidable X := by rw [hX]; exact inferInstance
  refine S_heap (fun w hw => hw.perm (pmX2 ..)) ?_
  skip
  refine S_cut (ι := Unit) (fun _ => True) (fun _ => [(0, .slice ab bs.length cb), (1, .int .i64 to), (2, .int .i64 i), (8, .pointer (some ⟨b1, 0, none⟩)), (9, .pointer (some ⟨b9, 0, none⟩)), (10, .int .i64 0), (11, .bool (decide X))]) (fun _ => knE W K4 G4 :: nbE 131 b1 N5.la N5.L.length N5.lc N5.sa N5.S.length N5.sc :: rowP W 71 N5.la N5.lc N5.L :: rowP W 71 N5.sa N5.sc N5.S :: .blk b9 (.cells ⟨cellP d⟩ 71 (0, 0)) true :: rowU W ab cb bs :: []) ?_ ?_
  · refine S_splitb (d := 58) rfl rfl (fun h1 => ?_) (fun h1 => ?_)
    · have h1 := of_decide_eq_true h1
      repeat (first | refine S_nil ?_ | refine S_pure tabOk rfl ?_)
      refine ⟨(), trivial, ?_, fun w' hw => hw⟩
      rw [show decide X = decide (to < 16) from decide_eq_decide.2 (by rw [hX]; exact ⟨fun h => h.2, fun h => ⟨h1, h⟩⟩)]
      repeat (first | exact Sub.nil | refine Sub.cons rfl ?_)
    · have h1 := of_decide_eq_false h1
      repeat (first | refine S_nil ?_ | refine S_pure tabOk rfl ?_ | refine S_pass rfl rfl rfl ?_)
      refine ⟨(), trivial, ?_, fun w' hw => hw⟩
      rw [decide_eq_false (fun h => h1 (by rw [hX] at h; exact h.1) : ¬ X)]
      repeat (first | exact Sub.nil | refine Sub.cons rfl ?_)
  rintro _ _
  repeat (first | refine T_seq ?_ | refine T_region ?_ | refine S_nil ?_ | refine S_pure tabOk rfl ?_)
  refine S_callq rfl Try.call43 (fun w1 h1 => ndeliver0 i w1) ?_
  repeat (first | refine S_pure tabOk rfl ?_)
  refine S_new tabOk rfl (fun b13 hb13 => ?_)
  repeat (first | refine T_seq ?_ | refine T_region ?_ | refine S_nil ?_ | refine S_pure tabOk rfl ?_ | refine S_load tabOk 5 rfl rfl rfl ?_ | refine S_store tabOk 0 rfl rfl rfl rfl rfl rfl ?_)
  refine S_heap (fun w hw => hw.dropn hb13) ?_
  refine S_callq (v := .bool true) rfl Try.call21 (fun w1 h1 => (same_ok d.a ab _ d.c _ cb d.bs bs w1 (hdi w1 G4 (h1.okP 0 rfl)) (ints_own (h1.own _ (getE_mem (i := 5) rfl)) hbf)).mono fun e w' ⟨e1, e2⟩ => ⟨by rw [e1]; exact retb (decide_eq_true hdb), e2⟩) ?_
  repeat (first | refine S_pure tabOk rfl ?_ | refine S_q (Q_build tabOk rfl rfl rfl rfl rfl rfl rfl) ?_)
  refine S_call rfl Try.call39 (fun w1 h1 => (sendG_ok (q := ⟨to, [], none, 0⟩) h1 hN5 (by omega) hto (Nat.zero_le _) (fun w2 ol2 _ _ => (SlR.nil_ (A := TT)).ints)).mono fun e w' ⟨K6, G6, N6, e1, q6⟩ => ⟨_, _, e1, q6.h, ?_⟩)
  have hN6 := q6.ok
  clear e1 q6 hN5 hN4 hN3 hN2 hN1
  repeat (first | refine S_pure tabOk rfl ?_)
  have hX2 : errV (Pk.v ⟨to, [], none, 0⟩) = 0 ↔ X := by
    rw [hX]
    unfold errV Pk.v
    dsimp only
    rw [List.length_nil]
    by_cases h1 : to < -1 ∨ 15 < to
    · rw [if_pos h1]
      exact ⟨fun h => absurd h (by decide), fun h => by omega⟩
    · rw [if_neg h1, if_neg (by omega)]
      exact ⟨fun _ => by omega, fun _ => rfl⟩
  have hbq : (decide (errV (Pk.v ⟨to, [], none, 0⟩) = 0) == decide X) = true := by
    rw [show decide (errV (Pk.v ⟨to, [], none, 0⟩) = 0) = decide X from decide_eq_decide.2 hX2]
    exact beq_self_eq_true _
  refine S_q ((Q_eqb tabOk rfl rfl rfl rfl rfl).eq (congrArg Value.bool hbq)) ?_
  repeat (first | refine S_pure tabOk rfl ?_)
  obtain ⟨Z, hZ⟩ : ∃ Z : List Int, Z = List.replicate 65508 0 := ⟨_, rfl⟩
  have hZl : Z.length = 65508 := by rw [hZ, List.length_replicate]
  have hZf : ∀ z ∈ Z, Fits .u8 z := fun z hz => by
    rw [hZ] at hz
    rw [List.eq_of_mem_replicate hz]
    exact ⟨by decide, by decide⟩
  have hZm : (madeCells (Value.int .u8 0).cells (Z.length * 1)).toList = Z.map (Value.int .u8) := by
    refine (made_one (.int .u8 0) Z.length).trans ?_
    rw [hZl, hZ, List.map_replicate]
  clear hZ
  refine S_make tabOk (m := Z.length) (c := Z.length) rfl rfl rfl rfl rfl rfl (by omega) (by omega) (Nat.le_refl _) (by show 1 * _ ≤ _; omega) (by omega) (fun bz hbz => ?_)
  refine S_heap (ol' := knE W K6 G6 :: nbE 131 b1 N6.la N6.L.length N6.lc N6.sa N6.S.length N6.sc :: rowP W 71 N6.la N6.lc N6.L :: rowP W 71 N6.sa N6.sc N6.S :: .blk bz (.cells ⟨Z.map (.int .u8)⟩ 5 (0, 0)) true :: .blk b9 (.cells ⟨cellP d⟩ 71 (0, 0)) true :: rowU W ab cb bs :: []) (fun w hw => Hp.perm (by rw [← hZm]; exact hw) (pmX3 ..)) ?_
  repeat (first | refine S_q (Q_build tabOk rfl rfl rfl rfl rfl rfl rfl) ?_)
  have he6 : errV (Pk.v ⟨0, Z, some ⟨bz, 0, none⟩, Z.length⟩) = 6 := by unfold errV Pk.v; rw [if_neg (by dsimp only; omega), if_pos (by dsimp only; omega)]
  refine S_call rfl Try.call39 (fun w1 h1 => (sendG_ok (q := ⟨0, Z, some ⟨bz, 0, none⟩, Z.length⟩) h1 hN6 (by omega) (mk_i64 (n := 0) (by decide)) (by dsimp only; omega) (fun w2 ol2 h2 hm => ints_lit (h2.own _ (hm _ (getE_mem (i := 0) rfl))) rfl hZf (by simp only [maxLen]; omega))).mono fun e w' ⟨K7, G7, N7, e1, q7⟩ => ⟨_, _, e1, q7.h, ?_⟩)
  have hN7 := q7.ok
  rw [he6]
  clear e1 q7 hN6
  refine S_heap (ol' := knE W (⟨16, [], none, 0⟩ :: K7) G7 :: nbE 131 b1 N7.la N7.L.length N7.lc N7.sa N7.S.length N7.sc :: rowP W 71 N7.la N7.lc N7.L :: rowP W 71 N7.sa N7.sc N7.S :: .blk b9 (.cells ⟨cellP d⟩ 71 (0, 0)) true :: rowU W ab cb bs :: []) (fun w hw => Hp.nilPk (hw.less (Less.keep (Less.keep (Less.keep (Less.keep (Less.dropB hbz (Less.same _))))))) (mk_i64 (n := 16) (by decide))) ?_
  replace hN7 := hN7.up (K' := ⟨16, [], none, 0⟩ :: K7) (fun p hp => List.mem_cons_of_mem _ hp) (Nat.le_refl _)
  repeat (first | refine S_pure tabOk rfl ?_ | refine S_q (Q_build tabOk rfl rfl rfl rfl rfl rfl rfl) ?_)
  refine S_call rfl Try.call44 (fun w1 h1 => (nforge_ok (q := ⟨16, [], none, 0⟩) h1 hN7 (by omega) List.mem_cons_self).mono fun e w' ⟨K8, G8, N8, e1, q8⟩ => ⟨_, _, e1, q8.h, ?_⟩)
  rw [show forE N7.v (Pk.v ⟨16, [], none, 0⟩) = 1 from rfl]
  clear e1 q8 hN7
  repeat (first | refine S_pure tabOk rfl ?_ | refine S_load tabOk 4 rfl rfl rfl ?_)
  refine S_callq rfl Try.call39 (fun w1 h1 => nsend0 d w1) ?_
  repeat (first | refine S_pure tabOk rfl ?_)
  refine S_callq rfl Try.call41 (fun w1 h1 => ndrop0 i w1) ?_
  repeat (first | refine S_pure tabOk rfl ?_)
  refine S_callq rfl Try.call45 (fun w1 h1 => ndouble0 i w1) ?_
  repeat (first | refine S_pure tabOk rfl ?_)
  refine S_callq rfl Try.call40 (fun w1 h1 => nturn0 i w1) ?_
  repeat (first | refine S_pure tabOk rfl ?_)
  refine S_callq rfl Try.call42 (fun w1 h1 => nreplay0 i w1) ?_
  repeat (first | refine S_pure tabOk rfl ?_ | refine S_load tabOk 4 rfl rfl rfl ?_)
  refine S_callq rfl Try.call44 (fun w1 h1 => nforge0 d w1) ?_
  repeat (first | refine S_pure tabOk rfl ?_)
  refine S_callq rfl Try.call37 (fun w1 h1 => nlen0 w1) ?_
  repeat (first | refine S_pure tabOk rfl ?_)
  refine S_callq rfl Try.call35 (fun w1 h1 => nsent0 w1) ?_
  repeat (first | refine S_i64 tabOk rfl (by omega) ?_ | refine S_pure tabOk rfl ?_)
  refine S_callq rfl Try.call36 (fun w1 h1 => nlist0 w1) ?_
  repeat (first | refine S_nil ?_ | refine T_ret ?_ | refine S_i64 tabOk rfl (by omega) ?_ | refine S_pure tabOk rfl ?_)
  refine ret1 rfl rfl (fun w' hw => ?_)
  have hG := hw.newK 0 rfl
  exact ⟨retb (by decide), hw.below (by repeat (first | exact new_nil | refine new_rx (by assumption) ?_ | refine new_cons (by first | assumption | omega) ?_ | refine newrow hw 2 rfl (Nat.le_refl _) ?_ | refine newrow hw 3 rfl (Nat.le_refl _) ?_ | refine newrow hw 5 rfl (Nat.le_refl _) ?_))⟩

end Go.Proofs.Ytnefhhoijonnaaa
