/-
  The walk of FrameDecodes. Conditions: each theorem's own.
-/
import Derived.Test.YtnefhhoijonnaaaFrY
namespace Go.Proofs.Ytnefhhoijonnaaa
open Go Go.RowKit
set_option linter.unusedVariables false

theorem decT_err {zs : List Int} (h : (decT zs).1 ≠ 0) : (decT zs).2 = (zH, [], []) := by
  revert h
  unfold decT
  repeat' split
  all_goals intro h; first | rfl | exact absurd rfl h
open Classical in
set_option maxHeartbeats 4000000 in
theorem frameDecodes_w (a : Option Addr) (n c : Nat) (zs : List Int) (W : World) (hw : Ints .u8 W a n c zs) : Calls Try.prog 8 #[.slice a n c] W fun e w' => e = .returned (.bool true) ∧ Below W.heap.size W w' := by
  obtain ⟨q, hq⟩ : ∃ q, q = zs.take 600 := ⟨_, rfl⟩
  have hyl : q.length ≤ 600 := by rw [hq, List.length_take]; omega
  have hqf : ∀ z ∈ q, Fits .u8 z := fun z hz => hw.fits z (by rw [hq] at hz; exact List.mem_of_mem_take hz)
  obtain ⟨⟨E, H, rs, its⟩, hd⟩ : ∃ r, decT q = r := ⟨_, rfl⟩
  obtain ⟨hHf, hrl, hil⟩ := decT_bd hqf
  rw [hd] at hHf hrl hil
  dsimp only at hHf hrl hil
  refine enter1 Try.func8 rfl rfl (Hp.refl W) ?_
  repeat (first | refine T_seq ?_ | refine T_region ?_ | refine S_nil ?_ | refine S_pure tabOk rfl ?_)
  refine S_callq (v := .bool true) rfl Try.call14 (fun w1 h1 => awake5_ok w1) ?_
  repeat (first | refine T_seq ?_ | refine T_region ?_ | refine S_nil ?_ | refine pthen_normal ?_ | refine T_skip ?_ | refine T_cond_f rfl ?_ | refine S_pure tabOk rfl ?_)
  refine S_callrow rfl Try.call24 (fun w1 h1 => cut_ok a n c zs 600 w1 (hw.ext (h1.below (by repeat (first | exact new_nil)))) (by decide)) (fun a1 c1 hc1 hd1 => ?_)
  rw [← hq] at hc1 ⊢
  repeat (first | refine T_seq ?_ | refine T_region ?_ | refine S_nil ?_ | refine S_pure tabOk rfl ?_)
  refine S_bslice tabOk rfl rfl rfl rfl rfl rfl rfl rfl rfl rfl rfl rfl (fun b2 hb2 => ?_)
  skip
  refine S_callrow rfl Try.call30 (fun w1 h1 => join1_ok a1 q.length c1 q b2 _ _ w1 (ints_of_own (h1.own _ (getE_mem (i := 1) rfl)) hqf) (h1.own _ (getE_mem (i := 0) rfl)) (by omega)) (fun a3 c3 hc3 hd3 => ?_)
  repeat (first | refine T_seq ?_ | refine T_region ?_ | refine S_nil ?_ | refine S_pure tabOk rfl ?_)
  refine S_callZ (decP (E, H, rs, its)) TT rfl Try.call25 (fun w1 h1 => by
    have := decode_v w1 (ints_of_own (h1.own _ (getE_mem (i := 0) rfl)) hqf)
    rw [hd] at this
    exact this.mono fun e w' ⟨r, e1, e2, e3⟩ => ⟨r, e1, e2, nbb' h1 e3⟩) (fun v0 F0 w1 hF hv => ⟨_, rfl, ?_⟩)
  obtain ⟨s5, rfl, hs5⟩ := hv
  have hs5r : rs.length = s5.rn := hs5.r.len
  have hs5i : its.length = s5.im := hs5.i.len
  clear hs5
  dsimp only
  repeat (first | refine S_pure tabOk rfl ?_)
  refine S_new tabOk rfl (fun b4 hb4 => ?_)
  repeat (first | refine T_seq ?_ | refine T_region ?_ | refine S_nil ?_ | refine S_pure tabOk rfl ?_ | refine S_store tabOk 0 rfl rfl rfl rfl rfl rfl ?_)
  refine S_callZ (decRP (E, H, rs, its)) TT rfl Try.call26 (fun w1 h1 => by
    have := rdecode_v w1 (ints_of_own (h1.own _ (getE_mem (i := 3) rfl)) hqf)
    rw [hd] at this
    exact this.mono fun e w' ⟨r, e1, e2, e3⟩ => ⟨r, e1, e2, nbb' h1 e3⟩) (fun v0 F0 w1 hF hv => ⟨_, rfl, ?_⟩)
  obtain ⟨s6, rfl, hs6⟩ := hv
  clear hs6
  dsimp only
  repeat (first | refine S_pure tabOk rfl ?_)
  refine S_new tabOk rfl (fun b6 hb6 => ?_)
  repeat (first | refine T_draw (by kernel_rfl) (by kernel_rfl) ?_ | refine D_pure tabOk rfl ?_ | refine T_seq ?_ | refine S_nil ?_ | refine S_pure tabOk rfl ?_ | refine S_store tabOk 0 rfl rfl rfl rfl rfl rfl ?_)
  refine D_re 30 (v' := .bool false) rfl (congrArg Value.bool (decide_eq_false (fun h => h rfl))) ?_
  repeat (first | refine D_load tabOk 1 rfl rfl rfl ?_)
  refine D_callp (OwnP H rs its) rfl Try.call18 OwnP.stable (fun w' vs hw' h => by
    obtain ⟨u1, _, rfl, rfl, u2, _, rfl, rfl, rfl⟩ := h
    exact (own5_ok H s5 hHf w' (decP_of (Vp.fact0 (p := decP (E, H, rs, its)) hw' 5 rfl)) (by omega) (by omega)).mono fun e w2 ⟨s', e1, e2, e3⟩ => ⟨_, e1, e2, s', rfl, e3.tt⟩) ?_
  repeat (first | refine D_load tabOk 0 rfl rfl rfl ?_)
  refine D_callx rfl Try.call22 (v := .bool true) (fun w' vs hw' h => by
    obtain ⟨u1, _, rfl, ⟨s', rfl, g1⟩, u2, _, rfl, rfl, rfl⟩ := h
    exact (rfsame5_ok H H s' s6 w' g1 (decRP_of (Vp.fact0 (p := decRP (E, H, rs, its)) hw' 6 rfl))).mono fun e w2 ⟨e1, e2⟩ => ⟨by rw [e1]; exact retb (decide_eq_true (frEq_refl H rs its)), e2⟩) ?_
  repeat (first | refine D_pure tabOk rfl ?_)
  refine D_callx rfl Try.call21 (v := .bool true) (fun w' vs hw' h => by
    obtain ⟨u1, _, rfl, rfl, u2, _, rfl, rfl, rfl⟩ := h
    exact same1_ok a3 a1 _ c3 _ c1 q w' (ints_of_own (hw'.own _ (getE_mem (i := 2) rfl)) hqf) (ints_of_own (hw'.own _ (getE_mem (i := 4) rfl)) hqf)) ?_
  repeat (first | refine D_pure tabOk rfl ?_)
  refine D_allP rfl ?_
  skip
  refine T_cond_f rfl ?_
  repeat (first | refine T_seq ?_ | refine T_region ?_ | refine S_nil ?_ | refine pthen_normal ?_ | refine T_skip ?_ | refine S_pure tabOk rfl ?_)
  refine T_cond_dec rfl (fun h9 => ?_) (fun h9 => ?_)
  · repeat (first | refine T_seq ?_ | refine T_region ?_ | refine S_load tabOk 1 rfl rfl rfl ?_ | refine S_q (Q_build tabOk rfl rfl rfl rfl rfl rfl rfl) ?_)
    have hz := decT_err (zs := q) (by rw [hd]; exact h9)
    rw [hd] at hz
    obtain ⟨rfl, rfl, rfl⟩ : H = zH ∧ rs = [] ∧ its = [] := by
      cases hz
      exact ⟨rfl, rfl, rfl⟩
    refine S_callq (v := .bool true) rfl Try.call19 (fun w1 h1 => by
      exact (fsame_ok zH zH s5 ⟨none, 0, 0, none, 0, 0⟩ w1 (decP_of (Vp.fact0 (p := decP (E, zH, [], [])) h1 5 rfl)) (fsR_zero w1 fun _ => True)).mono fun e w2 ⟨e1, e2⟩ => ⟨by rw [e1]; exact retb (decide_eq_true (frEq_refl zH [] [])), e2⟩) ?_
    repeat (first | refine S_nil ?_ | refine pthen_ret ?_ | refine T_ret ?_ | refine S_pure tabOk rfl ?_)
    exact ret1 rfl rfl (fun w' hw => ⟨rfl, hw.below (by repeat (first | exact new_nil | refine new_ro ?_ | refine new_cons (by first | assumption | omega) ?_ | refine newrow hw 2 rfl (Nat.le_refl _) ?_ | refine newrow hw 4 rfl (Nat.le_refl _) ?_))⟩)
  · have hE : E = 0 := Decidable.not_not.1 h9
    subst hE
    obtain ⟨hR, hE0, hZ, _⟩ := decT_0 hqf hd
    repeat (first | refine T_seq ?_ | refine T_region ?_ | refine pthen_normal ?_ | refine T_skip ?_ | refine S_load tabOk 1 rfl rfl rfl ?_)
    refine S_callrow2 (m := (encZ H rs its).length) (xs := (encZ H rs its).map (.int .u8)) (v2 := .int .i64 (encE H rs its)) (E := 5) (sz := 1) rfl Try.call20 (fun w1 h1 => encode_ok H s5 hHf w1 (decP_of (Vp.fact0 (p := decP (0, H, rs, its)) h1 5 rfl)) (by omega)) (fun a7 c7 hc7 hd7 => ?_)
    rw [hE0, hZ]
    repeat (first | refine T_seq ?_ | refine T_region ?_ | refine S_nil ?_ | refine S_pure tabOk rfl ?_)
    refine S_re 55 (v' := .bool true) rfl rfl ?_
    skip
    refine S_callq (v := .bool true) rfl Try.call21 (fun w1 h1 => same1_ok a7 a1 _ c7 _ c1 q w1 (ints_of_own (h1.own _ (getE_mem (i := 0) rfl)) hqf) (ints_of_own (h1.own _ (getE_mem (i := 5) rfl)) hqf)) ?_
    repeat (first | refine S_pure tabOk rfl ?_ | refine S_load tabOk 2 rfl rfl rfl ?_)
    refine S_callq (v := .bool true) rfl Try.call16 (fun w1 h1 => (right_ok H s5 hHf _ rs its w1 (decP_of (Vp.fact0 (p := decP (0, H, rs, its)) h1 6 rfl)) (by omega)).mono fun e w' ⟨e1, e2⟩ => ⟨by rw [e1]; exact retb (decide_eq_true hR), e2⟩) ?_
    repeat (first | refine S_nil ?_ | refine T_ret ?_ | refine S_pure tabOk rfl ?_)
    exact ret1 rfl rfl (fun w' hw => ⟨rfl, hw.below (by repeat (first | exact new_nil | refine new_ro ?_ | refine new_cons (by first | assumption | omega) ?_ | refine newrow hw 0 rfl (Nat.le_refl _) ?_ | refine newrow hw 3 rfl (Nat.le_refl _) ?_ | refine newrow hw 5 rfl (Nat.le_refl _) ?_))⟩)
theorem frameDecodes_walk (v : Value) (x : List Int) (W : World) (h : (Rslice (Rint .u8)).val W TT v x) : Calls Try.prog 8 #[v] W fun e w' => e = .returned (.bool true) ∧ Below W.heap.size W w' := by
  obtain ⟨a, n, c, rfl, hs⟩ := SlR.form h
  exact frameDecodes_w a n c x W hs.ints
end Go.Proofs.Ytnefhhoijonnaaa
