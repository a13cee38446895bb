/-
  The law QueueNil: its walk. Conditions: each theorem's own.
-/
import Derived.Test.YteogkadjambmkaaQuT
namespace Go.Proofs.Yteogkadjambmkaa
open Go Go.RowKit
set_option linter.unusedVariables false

abbrev Rspan : Rep (Int × List Int) := Rpair (Rint .i64) (Rslice (Rint .u8))
abbrev spV (k : Int) (a : Option Addr) (n c : Nat) : Value := .agg #[.int .i64 k, .slice a n c]
theorem span_form {w : World} {A : Nat → Prop} {v : Value} {x : Int × List Int} (h : Rspan.val w A v x) : ∃ a n c, v = spV x.1 a n c ∧ Fits .i64 x.1 ∧ SlR (Rint .u8) w A a n c x.2 := by
  obtain ⟨cs, rfl, c1, c2, rfl, ⟨rfl, hk⟩, a, n, c, rfl, hx⟩ := h
  exact ⟨a, n, c, rfl, hk, hx⟩
set_option maxHeartbeats 8000000 in
theorem queueNil_walk (cap : Int) (v1 : Value) (ws : List Int) (n : Int) (v3 : Value) (s : Int × List Int) (W : World) (hcap : Fits .i64 cap) (h1 : (Rslice (Rint .i64)).val W TT v1 ws) (hn : Fits .u64 n) (h3 : Rspan.val W TT v3 s) :
    Calls Try.prog 12 #[.int .i64 cap, v1, .int .u64 n, v3] W fun e w' => e = .returned (.bool true) ∧ Below W.heap.size W w' := by
  obtain ⟨a1, n1, c1, rfl, hx1⟩ := SlR.form h1
  obtain ⟨k, zs⟩ := s
  obtain ⟨a3, n3, c3, rfl, hk3, hx3⟩ := span_form h3
  obtain rfl := hx1.len
  obtain rfl := hx3.len
  dsimp only at *
  have hI := hx1.ints
  refine enter4 Try.func12 rfl rfl (Hp.refl W) ?_
  repeat (first | refine T_seq ?_ | refine T_region ?_)
  refine S_new tabOk rfl (fun b7 hb7 => ?_)
  repeat (first | refine T_seq ?_ | refine T_region ?_ | refine S_nil ?_ | refine S_pure tabOk rfl ?_)
  refine S_callq (v := .bool true) rfl Try.call24 (fun w1 h1 => awake9_ok w1) ?_
  repeat (first | refine S_nil ?_ | refine S_pure tabOk rfl ?_)
  refine T_cond_f rfl ?_
  repeat (first | refine T_seq ?_ | refine T_region ?_ | refine pthen_normal ?_ | refine T_skip ?_ | refine S_pure tabOk rfl ?_)
  cases hr : qRight cap ws with
  | false =>
    refine S_callq (v := .tuple #[.pointer none, .int .i64 1]) rfl Try.call25 (fun w1 h1 => (q_new cap a1 _ c1 ws w1 (ints_ext hI (h1.below (by repeat (first | exact new_nil | refine new_cons (by first | assumption | omega) ?_))))).mono fun e w' h => by rw [if_neg (by rw [hr]; decide)] at h; exact h) ?_
    repeat (first | refine T_seq ?_ | refine T_region ?_ | refine S_nil ?_ | refine S_pure tabOk rfl ?_)
    refine S_callq (v := .tuple #[.agg #[.int .i64 0, .slice none 0 0], .int .i64 4]) rfl Try.call36 (fun w1 h1 => q_drop0 n w1) ?_
    repeat (first | refine S_pure tabOk rfl ?_)
    refine S_new tabOk rfl (fun b12 hb12 => ?_)
    repeat (first | refine T_seq ?_ | refine T_region ?_ | refine S_nil ?_ | refine S_pure tabOk rfl ?_ | refine S_store tabOk 0 rfl rfl rfl rfl rfl rfl ?_)
    refine S_callq (v := .tuple #[.agg #[.int .i64 0, .slice none 0 0], .bool false]) rfl Try.call30 (fun w1 h1 => q_get0 n w1) ?_
    repeat (first | refine S_pure tabOk rfl ?_)
    refine S_new tabOk rfl (fun b14 hb14 => ?_)
    repeat (first | refine T_seq ?_ | refine T_region ?_ | refine S_nil ?_ | refine S_pure tabOk rfl ?_ | refine S_load tabOk 2 rfl rfl rfl ?_ | refine S_store tabOk 0 rfl rfl rfl rfl rfl rfl ?_)
    refine S_callq (v := .tuple #[.slice none 0 0, .bool false, .int .i64 4]) rfl Try.call29 (fun w1 h1 => q_victims0 k a3 zs.length c3 w1) ?_
    repeat (first | refine T_seq ?_ | refine T_region ?_ | refine S_nil ?_ | refine S_pure tabOk rfl ?_)
    refine S_callq (v := .tuple #[.int .u64 0, .bool false]) rfl Try.call40 (fun w1 h1 => q_lowest0 w1) ?_
    repeat (first | refine T_draw (by kernel_rfl) (by kernel_rfl) ?_ | refine D_pure tabOk rfl ?_ | refine T_seq ?_ | refine S_nil ?_ | refine S_pure tabOk rfl ?_)
    refine D_callx (v := .bool false) rfl Try.call41 (fun w' vs hw' h => by
      obtain ⟨u1, _, rfl, rfl, u2, _, rfl, rfl, rfl⟩ := h
      exact (qright_ok cap a1 ws.length c1 ws w' (ints_ext hI (hw'.below (by repeat (first | exact new_nil | refine new_cons (by first | assumption | omega) ?_))))).mono fun e w2 ⟨e1, e2⟩ => ⟨by rw [e1, hr], e2⟩) ?_
    skip
    refine D_q (Q_neb tabOk rfl rfl rfl rfl rfl) ?_
    repeat (first | refine D_pure tabOk rfl ?_)
    refine D_q (Q_eqptr tabOk rfl rfl rfl rfl rfl) ?_
    repeat (first | refine D_pure tabOk rfl ?_)
    refine D_q (Q_eqb tabOk rfl rfl rfl rfl rfl) ?_
    repeat (first | refine D_pure tabOk rfl ?_ | refine D_load tabOk 2 rfl rfl rfl ?_)
    refine D_callx (v := .int .i64 4) rfl Try.call27 (fun w' vs hw' h => by
      obtain ⟨u1, _, rfl, rfl, u2, _, rfl, rfl, u3, _, rfl, rfl, rfl⟩ := h
      exact q_put0 n k a3 zs.length c3 w') ?_
    repeat (first | refine D_pure tabOk rfl ?_)
    refine D_callx (v := .slice none 0 0) rfl Try.call31 (fun w' vs hw' h => by
      obtain ⟨u1, _, rfl, rfl, rfl⟩ := h
      exact q_numbers0 w') ?_
    repeat (first | refine D_pure tabOk rfl ?_)
    refine D_callx (v := .int .i64 0) rfl Try.call37 (fun w' vs hw' h => by
      obtain ⟨u1, _, rfl, rfl, rfl⟩ := h
      exact q_bytes0 w') ?_
    repeat (first | refine D_i64 tabOk rfl (by omega) ?_ | refine D_pure tabOk rfl ?_ | refine D_load tabOk 2 rfl rfl rfl ?_)
    refine D_callx (v := .int .i64 0) rfl Try.call42 (fun w' vs hw' h => by
      obtain ⟨u1, _, rfl, rfl, u2, _, rfl, rfl, rfl⟩ := h
      exact q_class0 k w') ?_
    repeat (first | refine D_i64 tabOk rfl (by omega) ?_ | refine D_pure tabOk rfl ?_)
    refine D_callx (v := .int .i64 0) rfl Try.call33 (fun w' vs hw' h => by
      obtain ⟨u1, _, rfl, rfl, rfl⟩ := h
      exact q_len0 w') ?_
    repeat (first | refine D_i64 tabOk rfl (by omega) ?_ | refine D_pure tabOk rfl ?_ | refine D_load tabOk 2 rfl rfl rfl ?_)
    refine D_callx (v := .bool false) rfl Try.call34 (fun w' vs hw' h => by
      obtain ⟨u1, _, rfl, rfl, u2, _, rfl, rfl, rfl⟩ := h
      exact q_takes0 k a3 zs.length c3 w') ?_
    repeat (first | refine D_all rfl ?_ | refine D_pure tabOk rfl ?_)
    refine T_cond_f rfl ?_
    repeat (first | refine T_seq ?_ | refine T_region ?_ | refine pthen_normal ?_ | refine T_skip ?_)
    refine S_bslice tabOk rfl rfl rfl rfl rfl rfl rfl rfl rfl rfl rfl rfl (fun b123 hb123 => ?_)
    refine S_callN rfl Try.call25 (fun w1 h1 => (q_newY (cap := 100) (ws := [1]) (slr_blk (zs := [1]) (h1.own _ (getE_mem (i := 0) rfl)) (by decide) (fun z hz => mk_i64 (by simp at hz; omega))).ints (by decide)).mono fun e w' ⟨yb, G, e1, hG, h2⟩ => ⟨_, _, G, e1, h2, hG, fun hGn => ?_⟩)
    repeat (first | refine T_seq ?_ | refine T_region ?_ | refine S_nil ?_ | refine S_pure tabOk rfl ?_ | refine S_q (Q_build tabOk rfl rfl rfl rfl rfl rfl rfl) ?_)
    refine S_callT 0 rfl Try.call27 rfl (fun w1 g => ?_)
    have g0 := g.own _ (getE_mem (i := 0) rfl)
    have hs1 := g.size
    have h9 := q_put (n := 1) (k := 1) g0.1 g0.2.2 (QOk.nil _ _) (by decide) (by decide) (by decide) (by decide) (by decide) (by decide) (A := fun _ => False) (SlR.nil_ (R := Rint .u8) (w := w1)) (fun _ h => h.elim)
    rw [show qPut 100 0 [1] [] 1 1 [] = (1, 0, []) from rfl] at h9
    refine h9.mono fun e w' ⟨he, G', f1, f2, g2⟩ => ⟨_, _, G', he, g2, f1, f2, _, rfl, ?_⟩
    have hGn' : ∀ k, G' k → W.heap.size ≤ k := fun k hk => (f2 k hk).elim (hGn k) (fun h => Nat.le_trans hs1 h)
    clear h9 g0 g
    dsimp only
    repeat (first | refine S_pure tabOk rfl ?_)
    refine S_callq (v := .int .i64 0) rfl Try.call42 (fun w1 h1 => q_class (h1.own _ (getE_mem (i := 0) rfl)).1 1) ?_
    repeat (first | refine S_pure tabOk rfl ?_)
    refine S_callq (v := .int .i64 0) rfl Try.call42 (fun w1 h1 => q_class (h1.own _ (getE_mem (i := 0) rfl)).1 (-1)) ?_
    repeat (first | refine S_pure tabOk rfl ?_ | refine S_q (Q_build tabOk rfl rfl rfl rfl rfl rfl rfl) ?_)
    refine S_callT 0 rfl Try.call27 rfl (fun w1 g => ?_)
    have g0 := g.own _ (getE_mem (i := 0) rfl)
    have hs2 := g.size
    have h9 := q_put (n := 0) (k := 0) g0.1 g0.2.2 (QOk.nil _ _) (by decide) (by decide) (by decide) (by decide) (by decide) (by decide) (A := fun _ => False) (SlR.nil_ (R := Rint .u8) (w := w1)) (fun _ h => h.elim)
    rw [show qPut 100 0 [1] [] 0 0 [] = (9, 0, []) from rfl] at h9
    refine h9.mono fun e w' ⟨he, G2, f3, f4, g2⟩ => ⟨_, _, G2, he, g2, f3, f4, _, rfl, ?_⟩
    have hGn2 : ∀ k, G2 k → W.heap.size ≤ k := fun k hk => (f4 k hk).elim (hGn' k) (fun h => Nat.le_trans hs2 h)
    clear h9 g0 g
    dsimp only
    repeat (first | refine S_nil ?_ | refine T_ret ?_ | refine S_pure tabOk rfl ?_)
    exact ret1 rfl rfl (fun w' hw => ⟨rfl, hw.below (by repeat (first | exact new_nil | refine new_rx (by assumption) ?_ | refine new_cons (by first | assumption | omega) ?_))⟩)
  | true =>
    refine S_callN rfl Try.call25 (fun w1 h1 => (q_newY (ints_ext hI (h1.below (by repeat (first | exact new_nil | refine new_cons (by first | assumption | omega) ?_)))) hr).mono fun e w' ⟨qb, F, e1, hF, h2⟩ => ⟨_, _, F, e1, h2, hF, fun hFn => ?_⟩)
    repeat (first | refine T_seq ?_ | refine T_region ?_ | refine S_nil ?_ | refine S_pure tabOk rfl ?_)
    refine S_callq (v := .tuple #[.agg #[.int .i64 0, .slice none 0 0], .int .i64 4]) rfl Try.call36 (fun w1 h1 => q_drop0 n w1) ?_
    repeat (first | refine S_pure tabOk rfl ?_)
    refine S_new tabOk rfl (fun b12 hb12 => ?_)
    repeat (first | refine T_seq ?_ | refine T_region ?_ | refine S_nil ?_ | refine S_pure tabOk rfl ?_ | refine S_store tabOk 0 rfl rfl rfl rfl rfl rfl ?_)
    refine S_callq (v := .tuple #[.agg #[.int .i64 0, .slice none 0 0], .bool false]) rfl Try.call30 (fun w1 h1 => q_get0 n w1) ?_
    repeat (first | refine S_pure tabOk rfl ?_)
    refine S_new tabOk rfl (fun b14 hb14 => ?_)
    repeat (first | refine T_seq ?_ | refine T_region ?_ | refine S_nil ?_ | refine S_pure tabOk rfl ?_ | refine S_load tabOk 3 rfl rfl rfl ?_ | refine S_store tabOk 0 rfl rfl rfl rfl rfl rfl ?_)
    refine S_callq (v := .tuple #[.slice none 0 0, .bool false, .int .i64 4]) rfl Try.call29 (fun w1 h1 => q_victims0 k a3 zs.length c3 w1) ?_
    repeat (first | refine T_seq ?_ | refine T_region ?_ | refine S_nil ?_ | refine S_pure tabOk rfl ?_)
    refine S_callq (v := .tuple #[.int .u64 0, .bool false]) rfl Try.call40 (fun w1 h1 => q_lowest0 w1) ?_
    repeat (first | refine T_draw (by kernel_rfl) (by kernel_rfl) ?_ | refine D_pure tabOk rfl ?_ | refine T_seq ?_ | refine S_nil ?_ | refine S_pure tabOk rfl ?_)
    refine D_callx (v := .bool true) rfl Try.call41 (fun w' vs hw' h => by
      obtain ⟨u1, _, rfl, rfl, u2, _, rfl, rfl, rfl⟩ := h
      exact (qright_ok cap a1 ws.length c1 ws w' (ints_ext hI (hw'.below (by repeat (first | exact new_nil | refine new_rx (by assumption) ?_ | refine new_cons (by first | assumption | omega) ?_))))).mono fun e w2 ⟨e1, e2⟩ => ⟨by rw [e1, hr], e2⟩) ?_
    skip
    refine D_q (Q_neb tabOk rfl rfl rfl rfl rfl) ?_
    repeat (first | refine D_pure tabOk rfl ?_ | refine D_pass rfl rfl rfl ?_)
    refine D_q (Q_eqptr tabOk rfl rfl rfl rfl rfl) ?_
    repeat (first | refine D_pure tabOk rfl ?_)
    refine D_q (Q_eqb tabOk rfl rfl rfl rfl rfl) ?_
    repeat (first | refine D_pure tabOk rfl ?_ | refine D_load tabOk 3 rfl rfl rfl ?_)
    refine D_callx (v := .int .i64 4) rfl Try.call27 (fun w' vs hw' h => by
      obtain ⟨u1, _, rfl, rfl, u2, _, rfl, rfl, u3, _, rfl, rfl, rfl⟩ := h
      exact q_put0 n k a3 zs.length c3 w') ?_
    repeat (first | refine D_pure tabOk rfl ?_)
    refine D_callx (v := .slice none 0 0) rfl Try.call31 (fun w' vs hw' h => by
      obtain ⟨u1, _, rfl, rfl, rfl⟩ := h
      exact q_numbers0 w') ?_
    repeat (first | refine D_pure tabOk rfl ?_)
    refine D_callx (v := .int .i64 0) rfl Try.call37 (fun w' vs hw' h => by
      obtain ⟨u1, _, rfl, rfl, rfl⟩ := h
      exact q_bytes0 w') ?_
    repeat (first | refine D_i64 tabOk rfl (by omega) ?_ | refine D_pure tabOk rfl ?_ | refine D_load tabOk 3 rfl rfl rfl ?_)
    refine D_callx (v := .int .i64 0) rfl Try.call42 (fun w' vs hw' h => by
      obtain ⟨u1, _, rfl, rfl, u2, _, rfl, rfl, rfl⟩ := h
      exact q_class0 k w') ?_
    repeat (first | refine D_i64 tabOk rfl (by omega) ?_ | refine D_pure tabOk rfl ?_)
    refine D_callx (v := .int .i64 0) rfl Try.call33 (fun w' vs hw' h => by
      obtain ⟨u1, _, rfl, rfl, rfl⟩ := h
      exact q_len0 w') ?_
    repeat (first | refine D_i64 tabOk rfl (by omega) ?_ | refine D_pure tabOk rfl ?_ | refine D_load tabOk 3 rfl rfl rfl ?_)
    refine D_callx (v := .bool false) rfl Try.call34 (fun w' vs hw' h => by
      obtain ⟨u1, _, rfl, rfl, u2, _, rfl, rfl, rfl⟩ := h
      exact q_takes0 k a3 zs.length c3 w') ?_
    repeat (first | refine D_all rfl ?_ | refine D_pure tabOk rfl ?_)
    refine T_cond_f rfl ?_
    repeat (first | refine T_seq ?_ | refine T_region ?_ | refine pthen_normal ?_ | refine T_skip ?_)
    refine S_bslice tabOk rfl rfl rfl rfl rfl rfl rfl rfl rfl rfl rfl rfl (fun b123 hb123 => ?_)
    refine S_callN rfl Try.call25 (fun w1 h1 => (q_newY (cap := 100) (ws := [1]) (slr_blk (zs := [1]) (h1.own _ (getE_mem (i := 0) rfl)) (by decide) (fun z hz => mk_i64 (by simp at hz; omega))).ints (by decide)).mono fun e w' ⟨yb, G, e1, hG, h2⟩ => ⟨_, _, G, e1, h2, hG, fun hGn => ?_⟩)
    repeat (first | refine T_seq ?_ | refine T_region ?_ | refine S_nil ?_ | refine S_pure tabOk rfl ?_ | refine S_q (Q_build tabOk rfl rfl rfl rfl rfl rfl rfl) ?_)
    refine S_callT 0 rfl Try.call27 rfl (fun w1 g => ?_)
    have g0 := g.own _ (getE_mem (i := 0) rfl)
    have hs1 := g.size
    have h9 := q_put (n := 1) (k := 1) g0.1 g0.2.2 (QOk.nil _ _) (by decide) (by decide) (by decide) (by decide) (by decide) (by decide) (A := fun _ => False) (SlR.nil_ (R := Rint .u8) (w := w1)) (fun _ h => h.elim)
    rw [show qPut 100 0 [1] [] 1 1 [] = (1, 0, []) from rfl] at h9
    refine h9.mono fun e w' ⟨he, G', f1, f2, g2⟩ => ⟨_, _, G', he, g2, f1, f2, _, rfl, ?_⟩
    have hGn' : ∀ k, G' k → W.heap.size ≤ k := fun k hk => (f2 k hk).elim (hGn k) (fun h => Nat.le_trans hs1 h)
    clear h9 g0 g
    dsimp only
    repeat (first | refine S_pure tabOk rfl ?_)
    refine S_callq (v := .int .i64 0) rfl Try.call42 (fun w1 h1 => q_class (h1.own _ (getE_mem (i := 0) rfl)).1 1) ?_
    repeat (first | refine S_pure tabOk rfl ?_)
    refine S_callq (v := .int .i64 0) rfl Try.call42 (fun w1 h1 => q_class (h1.own _ (getE_mem (i := 0) rfl)).1 (-1)) ?_
    repeat (first | refine S_pure tabOk rfl ?_ | refine S_q (Q_build tabOk rfl rfl rfl rfl rfl rfl rfl) ?_)
    refine S_callT 0 rfl Try.call27 rfl (fun w1 g => ?_)
    have g0 := g.own _ (getE_mem (i := 0) rfl)
    have hs2 := g.size
    have h9 := q_put (n := 0) (k := 0) g0.1 g0.2.2 (QOk.nil _ _) (by decide) (by decide) (by decide) (by decide) (by decide) (by decide) (A := fun _ => False) (SlR.nil_ (R := Rint .u8) (w := w1)) (fun _ h => h.elim)
    rw [show qPut 100 0 [1] [] 0 0 [] = (9, 0, []) from rfl] at h9
    refine h9.mono fun e w' ⟨he, G2, f3, f4, g2⟩ => ⟨_, _, G2, he, g2, f3, f4, _, rfl, ?_⟩
    have hGn2 : ∀ k, G2 k → W.heap.size ≤ k := fun k hk => (f4 k hk).elim (hGn' k) (fun h => Nat.le_trans hs2 h)
    clear h9 g0 g
    dsimp only
    repeat (first | refine S_nil ?_ | refine T_ret ?_ | refine S_pure tabOk rfl ?_)
    exact ret1 rfl rfl (fun w' hw => ⟨rfl, hw.below (by repeat (first | exact new_nil | refine new_rx (by assumption) ?_ | refine new_cons (by first | assumption | omega) ?_))⟩)
end Go.Proofs.Yteogkadjambmkaa
